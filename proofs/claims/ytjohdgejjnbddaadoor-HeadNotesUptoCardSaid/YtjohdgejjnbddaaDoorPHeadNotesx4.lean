/- Printed by this session's own program (wip/tools: a turn of the kit's print) out of the translation: each Go function that the law reaches as a Lean function, and that the machine's call comes to what that function tells; no condition but what each theorem names. -/
import Derived.Test.YtjohdgejjnbddaaDoorPHeadNotesx0
import Derived.Test.YtjohdgejjnbddaaDoorPHeadNotesx2
import Derived.Test.YtjohdgejjnbddaaDoorPHeadNotesx3
namespace Go.Proofs.YtjohdgejjnbddaaDoor.PHeadNotes
open Go.RowKit Go.Proofs.YtjohdgejjnbddaaDoorW.PrintWords Go.Proofs.YtjohdgejjnbddaaDoorW.PrintLast Go.Proofs.YtjohdgejjnbddaaDoorW.PrintMore Go.Proofs.YtjohdgejjnbddaaDoorX
attribute [local go_sem] max2_int min2_int max_two min_two max_three min_three max_four min_four   -- for this text's walks alone
set_option linter.unusedVariables false
set_option linter.unusedSimpArgs false

def hprog.T1 : Bool × List (List Nat × List Nat) := (true, [([], []), ([0], [0]), ([1], [1]), ([2], [2]), ([], []), ([3, 4], [3, 4]), ([5], [5]), ([], []), ([7], [7]), ([8], [8]), ([9], [9]), ([], []), ([11], [11]), ([10, 12, 5], [10, 12]), ([13], [13]), ([], []), ([15], [15]), ([16], [16]), ([17], [17]), ([], []), ([19], [19]), ([18, 20, 13], [18, 20]), ([], []), ([22], [22]), ([23], [23]), ([24], [24]), ([], []), ([26], [26]), ([25, 27, 21], [25, 27]), ([], []), ([29], [29]), ([30], [30]), ([31], [31]), ([], []), ([33], [33]), ([32, 34, 28], [32, 34]), ([], []), ([36], [36]), ([37], [37]), ([38], [38]), ([], []), ([40], [40]), ([39, 41, 35], [39, 41]), ([], []), ([43], [43]), ([44], [44]), ([45], [45]), ([], []), ([47], [47]), ([46, 48, 42], [46, 48]), ([6, 14, 21, 28, 35, 42, 49], [6, 14, 21, 28, 35, 42, 49]), ([], []), ([51, 50, 49, 0, 1, 2, 3, 4, 5, 6, 7, 8, 9, 10, 11, 12, 13, 14, 15, 16, 17, 18, 19, 20, 21, 22, 23, 24, 25, 26, 27, 28, 29, 30, 31, 32, 33, 34, 35, 36, 37, 38, 39, 40, 41, 42, 43, 44, 45, 46, 47, 48, 49, 50, 51], [50, 51])])
def hprog.B1 : List Nat := [0, 1, 3, 7, 0, 31, 63, 0, 128, 384, 896, 0, 2048, 8127, 16319, 0, 32768, 98304, 229376, 0, 524288, 2080703, 0, 4194304, 12582912, 29360128, 0, 67108864, 268419007, 0, 536870912, 1610612736, 3758096384, 0, 8589934592, 34359721919, 0, 68719476736, 206158430208, 481036337152, 0, 1099511627776, 4398046494655, 0, 8796093022208, 26388279066624, 61572651155456, 0, 140737488355328, 562949953404863, 1125899906842623, 0, 4503599627370495]
theorem hprog.tab1 : rtab .any (opsOf Tryd.f25 1) = hprog.T1 := by kernel_rfl
theorem hprog.bits1 : waitsOk hprog.T1.2 hprog.B1 = true := by kernel_rfl

def hprog.T6 : Bool × List (List Nat × List Nat) := (true, [([], []), ([], []), ([1], [1]), ([2], [2]), ([3, 2], [2, 3]), ([2], [2]), ([4, 5, 2, 2], [2, 4, 5]), ([2, 6], [2, 6]), ([7], [7]), ([], []), ([9], [9]), ([10], [10]), ([11], [11]), ([], []), ([13], [13]), ([], []), ([15], [15]), ([12, 14, 16, 6], [12, 14, 16]), ([17], [17]), ([18, 17], [18]), ([19], [19]), ([20, 19], [19, 20]), ([19], [19]), ([21, 22, 19, 19], [19, 21, 22]), ([19, 23], [19, 23]), ([24], [24]), ([], []), ([26], [26]), ([], []), ([28], [28]), ([27, 29, 23], [27, 29]), ([30], [30]), ([31, 30], [31]), ([32], [32]), ([33, 32], [32, 33]), ([32], [32]), ([34, 35, 32, 32], [32, 34, 35]), ([32, 36], [32, 36]), ([37], [37]), ([], []), ([39, 36], [39]), ([40], [40]), ([40, 41], [40, 41]), ([42, 40], [42]), ([43], [43]), ([44, 43], [43, 44]), ([43], [43]), ([46, 43], [43, 46]), ([45, 47, 43], [43, 45, 47]), ([43, 48], [43, 48]), ([49], [49]), ([], []), ([51, 43], [51]), ([52], [52]), ([53, 52, 52], [52, 53]), ([54], [54]), ([55, 54], [54, 55]), ([56, 54], [54, 56]), ([54, 57, 52], [52, 54, 57]), ([52, 58], [52, 58]), ([59, 54], [59]), ([60], [60]), ([61, 60], [60, 61]), ([62, 60, 60], [60, 62]), ([63], [63]), ([64, 63], [63, 64]), ([65, 63], [63, 65]), ([63, 66, 60], [60, 63, 66]), ([60, 67], [60, 67]), ([68], [68]), ([], []), ([70, 63], [70]), ([71], [71]), ([72, 71], [71, 72]), ([73, 71], [71, 73]), ([71, 74], [71, 74]), ([75], [75]), ([], []), ([77, 71], [77]), ([78], [78]), ([79, 78], [78, 79]), ([80, 78], [78, 80]), ([78, 81], [78, 81]), ([82], [82]), ([], []), ([84, 78], [84]), ([85], [85]), ([86, 85], [85, 86]), ([85], [85]), ([87, 88, 85], [85, 87, 88]), ([85], [85]), ([90, 85], [85, 90]), ([85], [85]), ([91, 92, 85], [85, 91, 92]), ([89, 93, 85], [85, 89, 93]), ([94, 85, 85], [85, 94]), ([95], [95]), ([96, 95], [95, 96]), ([97, 95], [95, 97]), ([95], [95]), ([99, 95], [95, 99]), ([100, 95], [95, 100]), ([101, 95], [95, 101]), ([98, 102, 95], [95, 98, 102]), ([95, 103, 85], [85, 95, 103]), ([85, 104], [85, 104]), ([105], [105]), ([8, 25, 38, 50, 69, 76, 83, 106], [8, 25, 38, 50, 69, 76, 83, 106]), ([0, 107, 95], [0, 107]), ([108, 108, 0, 1, 2, 3, 4, 5, 6, 7, 8, 9, 10, 11, 12, 13, 14, 15, 16, 17, 18, 19, 20, 21, 22, 23, 24, 25, 26, 27, 28, 29, 30, 31, 32, 33, 34, 35, 36, 37, 38, 39, 40, 41, 42, 43, 44, 45, 46, 47, 48, 49, 50, 51, 52, 53, 54, 55, 56, 57, 58, 59, 60, 61, 62, 63, 64, 65, 66, 67, 68, 69, 70, 71, 72, 73, 74, 75, 76, 77, 78, 79, 80, 81, 82, 83, 84, 85, 86, 87, 88, 89, 90, 91, 92, 93, 94, 95, 96, 97, 98, 99, 100, 101, 102, 103, 104, 105, 106, 107, 108], [108])])
def hprog.B6 : List Nat := [0, 0, 2, 6, 14, 6, 62, 126, 254, 0, 512, 1536, 3584, 0, 8192, 0, 32768, 130686, 261758, 523902, 1048190, 2096766, 1048190, 8388222, 16776830, 33554046, 0, 67108864, 0, 268435456, 1023409790, 2097151614, 4244635262, 8539602558, 17129537150, 8539602558, 68669144702, 137388621438, 274827574910, 0, 687144435326, 1786656063102, 3985679318654, 8383725829758, 17179818851966, 34772004896382, 17179818851966, 87548563029630, 281062609518206, 562537586228862, 1125487539650174, 0, 2268979632537214, 6772579259907710, 15779778514648702, 33794177024130686, 69822974043094654, 141880568081022590, 285995756156878462, 574226132308590206, 1150686884612013694, 2303608389218860670, 4609451398432554622, 9221137416859942526, 18444509453714718334, 36891253527424269950, 73784741674843373182, 147571717969681579646, 295145670559357992574, 590293575738710818430, 0, 1199036130171126021758, 3560219371605948628606, 8282585854475593842302, 17727318820214884269694, 36616784751693465124478, 74395716614650626834046, 0, 154675946823434595466878, 456907401727091889143422, 1061370311534406476496510, 2270296131149035651202686, 4688147770378294000615038, 9523851048836810699439742, 0, 19799720515561158684442238, 58485346743229292275039870, 135856599198565559456235134, 58485346743229292275039870, 600084113930583162543406718, 58485346743229292275039870, 1296425386028609567174164094, 58485346743229292275039870, 8724065621740891216568909438, 19788154722853977423479832190, 39595195351420061821865819774, 79209276608552230618637794942, 158437439122816568212181745278, 316893764151345243399269645950, 79209276608552230618637794942, 713034576722666931366989397630, 1980685176950896332863692603006, 4515986377407355135857099013758, 10141185915920123104998719487614, 20282390717745958316972345130622, 40564800321397628740919596416638, 81129619528700969588814098988670, 162259276829213363391578010288126, 324518553658426726783156020576255, 649037107316853453566312041152511]
theorem hprog.tab6 : rtab .any (opsOf Tryd.f25 6) = hprog.T6 := by kernel_rfl
theorem hprog.bits6 : waitsOk hprog.T6.2 hprog.B6 = true := by kernel_rfl

def hprog.T11 : Bool × List (List Nat × List Nat) := (true, [([], []), ([], []), ([1], [1]), ([2], [2]), ([3], [3]), ([4], [4]), ([], []), ([6], [6]), ([5, 7], [5, 7]), ([0, 0, 1, 2, 3, 4, 5, 6, 7, 8], [0]), ([9, 0, 1, 2, 3, 4, 5, 6, 7, 8], [9]), ([10, 0, 1, 2, 3, 4, 5, 6, 7, 8], [10]), ([11, 8, 8, 0, 1, 2, 3, 4, 5, 6, 7, 8], [8, 11])])
def hprog.B11 : List Nat := [0, 0, 2, 6, 14, 30, 0, 64, 254, 511, 1023, 2047, 4095]
theorem hprog.tab11 : rtab .any (opsOf Tryd.f25 11) = hprog.T11 := by kernel_rfl
theorem hprog.bits11 : waitsOk hprog.T11.2 hprog.B11 = true := by kernel_rfl

set_option maxHeartbeats 16000000 in
set_option maxRecDepth 100000 in
theorem prog_at (gb : Nat) (A0 : Option Addr) (c0 : Nat) (l : List Int) (ty en : Int) (pv : Value) (ps : List S50) (nd p : Int) (w0 w : World) (hB : Below w0.heap.size w0 w) (hgb : w0.heap.size ≤ gb) (hC : Kd.C (Kd.int .u8) w0 A0 l.length l) (hR : Rdr w gb A0 c0 l ty en pv nd) (hP : Kd.R k50 50 w w0.heap.size (fun _ => True) pv ps) (hn : l.length < 140737488355328) (hps : ps.length ≤ 1000) (hX0 : 0 ≤ (progX l p).f2 ∧ 0 ≤ (progX l p).f3) (hp0 : 0 ≤ p) (hp1 : p < 18446744073709551616) :
  Calls Tryd.prog 25 #[.pointer (some ⟨gb, 0, none⟩), .int .u64 p] w fun e w' => ∃ ve pv', e = .returned ve ∧ ErrAt 32 103 105 w' w0.heap.size (progV l p ps nd).1 ve ∧ Rdr w' gb A0 c0 l ty en pv' (progV l p ps nd).2.2 ∧ Kd.R k50 50 w' w0.heap.size (fun _ => True) pv' (progV l p ps nd).2.1 ∧ Below w0.heap.size w0 w' := by
 have hu72 := Tryd.underlying72; have hu70 := Tryd.underlying70; have hu50 := Tryd.underlying50; have hu27 := Tryd.underlying27; have hc := hR.cap; have HCC := aM hC; clear hC; obtain ⟨AP, cP, rfl⟩ := Kd.R_slice hP; have HR := aM (hR.below (below_drew1 (Below.refl _ _))); have HP := aM (Kd.R_drew hP); have HB := aM (below_drew1 hB); have gc := HR.out.c0; have gc0 := hR.c0; have HNN := aM (And.intro hn (And.intro hps (And.intro hp0 (And.intro hp1 hc)))); have HGB := aM hgb; clear hn hps hp0 hp1 hc hgb hR hP hB
 go_enter Tryd.func25, Tryd.ntmps25
 go_wp2
 refine start_ (n := 53) (S := fun w' => w'.cell? ⟨gb, 0, none⟩ = some (.slice A0 l.length c0)) (ds := [52]) (bzA 53 0) (by kernel_rfl) rfl (by kernel_rfl) (gc) (fun hHeld => ?_); refine with_tabW hprog.tab1 hprog.bits1 (fun HT_ HW_ => ?_); refine pure_ (i := 0) (N := some 13) (v := ?_) (a' := ?_) (bzA 53 1) rfl rfl (any_of HT_.out (by kernel_rfl)) (fun _ _ _ h => h) (Or.inl ⟨by rfl, ?_⟩) ?_ ?_; rotate_left
 ·intro w'
  go_simp
  with_reducible rfl
 rotate_left
 ·simp only [Act.put, sA, sZ, sS, i64_w, i32_w]
  rfl
 refine pure_ (i := 1) (N := some 14) (v := ?_) (a' := ?_) (bzA 53 3) rfl rfl (any_of HT_.out (by kernel_rfl)) (fun _ _ _ h => h) (Or.inl ⟨by rfl, ?_⟩) ?_ ?_; rotate_left
 ·intro w'
  go_simp
  with_reducible rfl
 rotate_left
 ·simp only [Act.put, sA, sZ, sS, i64_w, i32_w]
  rfl
 refine pure_ (i := 2) (N := some 15) (v := ?_) (a' := ?_) (bzA 53 7) rfl rfl (any_of HT_.out (by kernel_rfl)) (fun _ _ _ h => h) (Or.inl ⟨by rfl, ?_⟩) ?_ ?_; rotate_left
 ·intro w'
  go_simp
  with_reducible rfl
 rotate_left
 ·simp only [Act.put, sA, sZ, sS, i64_w, i32_w]
  rfl
 refine pure_ (i := 4) (N := some 17) (v := ?_) (a' := ?_) (bzA 53 23) rfl rfl (any_of HT_.out (by kernel_rfl)) (fun _ _ _ h => h) (Or.inl ⟨by rfl, ?_⟩) ?_ ?_; rotate_left
 ·intro w'
  go_simp
  with_reducible rfl
 rotate_left
 ·simp only [Act.put, sA, sZ, sS, i64_w, i32_w]
  rfl
 refine pure_ (i := 7) (N := some 20) (v := ?_) (a' := ?_) (bzA 53 151) rfl rfl (any_of HT_.out (by kernel_rfl)) (fun _ _ _ h => h) (Or.inl ⟨by rfl, ?_⟩) ?_ ?_; rotate_left
 ·intro w'
  go_simp
  with_reducible rfl
 rotate_left
 ·simp only [Act.put, sA, sZ, sS, i64_w, i32_w]
  rfl
 refine pure_ (i := 8) (N := some 21) (v := ?_) (a' := ?_) (bzA 53 407) rfl rfl (any_of HT_.out (by kernel_rfl)) (fun _ _ _ h => h) (Or.inl ⟨by rfl, ?_⟩) ?_ ?_; rotate_left
 ·intro w'
  go_simp
  with_reducible rfl
 rotate_left
 ·simp only [Act.put, sA, sZ, sS, i64_w, i32_w]
  rfl
 refine pure_ (i := 9) (N := some 22) (v := ?_) (a' := ?_) (bzA 53 919) rfl rfl (any_of HT_.out (by kernel_rfl)) (fun _ _ _ h => h) (Or.inl ⟨by rfl, ?_⟩) ?_ ?_; rotate_left
 ·intro w'
  go_simp
  with_reducible rfl
 rotate_left
 ·simp only [Act.put, sA, sZ, sS, i64_w, i32_w]
  rfl
 refine pure_ (i := 11) (N := some 24) (v := ?_) (a' := ?_) (bzA 53 2967) rfl rfl (any_of HT_.out (by kernel_rfl)) (fun _ _ _ h => h) (Or.inl ⟨by rfl, ?_⟩) ?_ ?_; rotate_left
 ·intro w'
  go_simp
  with_reducible rfl
 rotate_left
 ·simp only [Act.put, sA, sZ, sS, i64_w, i32_w]
  rfl
 refine pure_ (i := 12) (N := some 25) (v := ?_) (a' := ?_) (bzA 53 7063) rfl rfl (any_of HT_.out (by kernel_rfl)) (fun _ _ _ h => h) (Or.inl ⟨by rfl, ?_⟩) ?_ ?_; rotate_left
 ·intro w'
  go_simp
  with_reducible rfl
 rotate_left
 ·simp only [Act.put, sA, sZ, sS, i64_w, i32_w]
  rfl
 refine pure_ (i := 15) (N := some 28) (v := ?_) (a' := ?_) (bzA 53 39831) rfl rfl (any_of HT_.out (by kernel_rfl)) (fun _ _ _ h => h) (Or.inl ⟨by rfl, ?_⟩) ?_ ?_; rotate_left
 ·intro w'
  go_simp
  with_reducible rfl
 rotate_left
 ·simp only [Act.put, sA, sZ, sS, i64_w, i32_w]
  rfl
 refine pure_ (i := 16) (N := some 29) (v := ?_) (a' := ?_) (bzA 53 105367) rfl rfl (any_of HT_.out (by kernel_rfl)) (fun _ _ _ h => h) (Or.inl ⟨by rfl, ?_⟩) ?_ ?_; rotate_left
 ·intro w'
  go_simp
  with_reducible rfl
 rotate_left
 ·simp only [Act.put, sA, sZ, sS, i64_w, i32_w]
  rfl
 refine pure_ (i := 17) (N := some 30) (v := ?_) (a' := ?_) (bzA 53 236439) rfl rfl (any_of HT_.out (by kernel_rfl)) (fun _ _ _ h => h) (Or.inl ⟨by rfl, ?_⟩) ?_ ?_; rotate_left
 ·intro w'
  go_simp
  with_reducible rfl
 rotate_left
 ·simp only [Act.put, sA, sZ, sS, i64_w, i32_w]
  rfl
 refine pure_ (i := 19) (N := some 32) (v := ?_) (a' := ?_) (bzA 53 760727) rfl rfl (any_of HT_.out (by kernel_rfl)) (fun _ _ _ h => h) (Or.inl ⟨by rfl, ?_⟩) ?_ ?_; rotate_left
 ·intro w'
  go_simp
  with_reducible rfl
 rotate_left
 ·simp only [Act.put, sA, sZ, sS, i64_w, i32_w]
  rfl
 refine pure_ (i := 20) (N := some 33) (v := ?_) (a' := ?_) (bzA 53 1809303) rfl rfl (any_of HT_.out (by kernel_rfl)) (fun _ _ _ h => h) (Or.inl ⟨by rfl, ?_⟩) ?_ ?_; rotate_left
 ·intro w'
  go_simp
  with_reducible rfl
 rotate_left
 ·simp only [Act.put, sA, sZ, sS, i64_w, i32_w]
  rfl
 refine pure_ (i := 22) (N := some 35) (v := ?_) (a' := ?_) (bzA 53 6003607) rfl rfl (any_of HT_.out (by kernel_rfl)) (fun _ _ _ h => h) (Or.inl ⟨by rfl, ?_⟩) ?_ ?_; rotate_left
 ·intro w'
  go_simp
  with_reducible rfl
 rotate_left
 ·simp only [Act.put, sA, sZ, sS, i64_w, i32_w]
  rfl
 refine pure_ (i := 23) (N := some 36) (v := ?_) (a' := ?_) (bzA 53 14392215) rfl rfl (any_of HT_.out (by kernel_rfl)) (fun _ _ _ h => h) (Or.inl ⟨by rfl, ?_⟩) ?_ ?_; rotate_left
 ·intro w'
  go_simp
  with_reducible rfl
 rotate_left
 ·simp only [Act.put, sA, sZ, sS, i64_w, i32_w]
  rfl
 refine pure_ (i := 24) (N := some 37) (v := ?_) (a' := ?_) (bzA 53 31169431) rfl rfl (any_of HT_.out (by kernel_rfl)) (fun _ _ _ h => h) (Or.inl ⟨by rfl, ?_⟩) ?_ ?_; rotate_left
 ·intro w'
  go_simp
  with_reducible rfl
 rotate_left
 ·simp only [Act.put, sA, sZ, sS, i64_w, i32_w]
  rfl
 refine pure_ (i := 26) (N := some 39) (v := ?_) (a' := ?_) (bzA 53 98278295) rfl rfl (any_of HT_.out (by kernel_rfl)) (fun _ _ _ h => h) (Or.inl ⟨by rfl, ?_⟩) ?_ ?_; rotate_left
 ·intro w'
  go_simp
  with_reducible rfl
 rotate_left
 ·simp only [Act.put, sA, sZ, sS, i64_w, i32_w]
  rfl
 refine pure_ (i := 27) (N := some 40) (v := ?_) (a' := ?_) (bzA 53 232496023) rfl rfl (any_of HT_.out (by kernel_rfl)) (fun _ _ _ h => h) (Or.inl ⟨by rfl, ?_⟩) ?_ ?_; rotate_left
 ·intro w'
  go_simp
  with_reducible rfl
 rotate_left
 ·simp only [Act.put, sA, sZ, sS, i64_w, i32_w]
  rfl
 refine pure_ (i := 29) (N := some 42) (v := ?_) (a' := ?_) (bzA 53 769366935) rfl rfl (any_of HT_.out (by kernel_rfl)) (fun _ _ _ h => h) (Or.inl ⟨by rfl, ?_⟩) ?_ ?_; rotate_left
 ·intro w'
  go_simp
  with_reducible rfl
 rotate_left
 ·simp only [Act.put, sA, sZ, sS, i64_w, i32_w]
  rfl
 refine pure_ (i := 30) (N := some 43) (v := ?_) (a' := ?_) (bzA 53 1843108759) rfl rfl (any_of HT_.out (by kernel_rfl)) (fun _ _ _ h => h) (Or.inl ⟨by rfl, ?_⟩) ?_ ?_; rotate_left
 ·intro w'
  go_simp
  with_reducible rfl
 rotate_left
 ·simp only [Act.put, sA, sZ, sS, i64_w, i32_w]
  rfl
 refine pure_ (i := 31) (N := some 44) (v := ?_) (a' := ?_) (bzA 53 3990592407) rfl rfl (any_of HT_.out (by kernel_rfl)) (fun _ _ _ h => h) (Or.inl ⟨by rfl, ?_⟩) ?_ ?_; rotate_left
 ·intro w'
  go_simp
  with_reducible rfl
 rotate_left
 ·simp only [Act.put, sA, sZ, sS, i64_w, i32_w]
  rfl
 refine pure_ (i := 33) (N := some 46) (v := ?_) (a' := ?_) (bzA 53 12580526999) rfl rfl (any_of HT_.out (by kernel_rfl)) (fun _ _ _ h => h) (Or.inl ⟨by rfl, ?_⟩) ?_ ?_; rotate_left
 ·intro w'
  go_simp
  with_reducible rfl
 rotate_left
 ·simp only [Act.put, sA, sZ, sS, i64_w, i32_w]
  rfl
 refine pure_ (i := 34) (N := some 47) (v := ?_) (a' := ?_) (bzA 53 29760396183) rfl rfl (any_of HT_.out (by kernel_rfl)) (fun _ _ _ h => h) (Or.inl ⟨by rfl, ?_⟩) ?_ ?_; rotate_left
 ·intro w'
  go_simp
  with_reducible rfl
 rotate_left
 ·simp only [Act.put, sA, sZ, sS, i64_w, i32_w]
  rfl
 refine pure_ (i := 36) (N := some 49) (v := ?_) (a' := ?_) (bzA 53 98479872919) rfl rfl (any_of HT_.out (by kernel_rfl)) (fun _ _ _ h => h) (Or.inl ⟨by rfl, ?_⟩) ?_ ?_; rotate_left
 ·intro w'
  go_simp
  with_reducible rfl
 rotate_left
 ·simp only [Act.put, sA, sZ, sS, i64_w, i32_w]
  rfl
 refine pure_ (i := 37) (N := some 50) (v := ?_) (a' := ?_) (bzA 53 235918826391) rfl rfl (any_of HT_.out (by kernel_rfl)) (fun _ _ _ h => h) (Or.inl ⟨by rfl, ?_⟩) ?_ ?_; rotate_left
 ·intro w'
  go_simp
  with_reducible rfl
 rotate_left
 ·simp only [Act.put, sA, sZ, sS, i64_w, i32_w]
  rfl
 refine pure_ (i := 38) (N := some 51) (v := ?_) (a' := ?_) (bzA 53 510796733335) rfl rfl (any_of HT_.out (by kernel_rfl)) (fun _ _ _ h => h) (Or.inl ⟨by rfl, ?_⟩) ?_ ?_; rotate_left
 ·intro w'
  go_simp
  with_reducible rfl
 rotate_left
 ·simp only [Act.put, sA, sZ, sS, i64_w, i32_w]
  rfl
 refine pure_ (i := 40) (N := some 53) (v := ?_) (a' := ?_) (bzA 53 1610308361111) rfl rfl (any_of HT_.out (by kernel_rfl)) (fun _ _ _ h => h) (Or.inl ⟨by rfl, ?_⟩) ?_ ?_; rotate_left
 ·intro w'
  go_simp
  with_reducible rfl
 rotate_left
 ·simp only [Act.put, sA, sZ, sS, i64_w, i32_w]
  rfl
 refine pure_ (i := 41) (N := some 54) (v := ?_) (a' := ?_) (bzA 53 3809331616663) rfl rfl (any_of HT_.out (by kernel_rfl)) (fun _ _ _ h => h) (Or.inl ⟨by rfl, ?_⟩) ?_ ?_; rotate_left
 ·intro w'
  go_simp
  with_reducible rfl
 rotate_left
 ·simp only [Act.put, sA, sZ, sS, i64_w, i32_w]
  rfl
 refine pure_ (i := 43) (N := some 56) (v := ?_) (a' := ?_) (bzA 53 12605424638871) rfl rfl (any_of HT_.out (by kernel_rfl)) (fun _ _ _ h => h) (Or.inl ⟨by rfl, ?_⟩) ?_ ?_; rotate_left
 ·intro w'
  go_simp
  with_reducible rfl
 rotate_left
 ·simp only [Act.put, sA, sZ, sS, i64_w, i32_w]
  rfl
 refine pure_ (i := 44) (N := some 57) (v := ?_) (a' := ?_) (bzA 53 30197610683287) rfl rfl (any_of HT_.out (by kernel_rfl)) (fun _ _ _ h => h) (Or.inl ⟨by rfl, ?_⟩) ?_ ?_; rotate_left
 ·intro w'
  go_simp
  with_reducible rfl
 rotate_left
 ·simp only [Act.put, sA, sZ, sS, i64_w, i32_w]
  rfl
 refine pure_ (i := 45) (N := some 58) (v := ?_) (a' := ?_) (bzA 53 65381982772119) rfl rfl (any_of HT_.out (by kernel_rfl)) (fun _ _ _ h => h) (Or.inl ⟨by rfl, ?_⟩) ?_ ?_; rotate_left
 ·intro w'
  go_simp
  with_reducible rfl
 rotate_left
 ·simp only [Act.put, sA, sZ, sS, i64_w, i32_w]
  rfl
 refine pure_ (i := 47) (N := some 60) (v := ?_) (a' := ?_) (bzA 53 206119471127447) rfl rfl (any_of HT_.out (by kernel_rfl)) (fun _ _ _ h => h) (Or.inl ⟨by rfl, ?_⟩) ?_ ?_; rotate_left
 ·intro w'
  go_simp
  with_reducible rfl
 rotate_left
 ·simp only [Act.put, sA, sZ, sS, i64_w, i32_w]
  rfl
 refine pure_ (i := 48) (N := some 61) (v := ?_) (a' := ?_) (bzA 53 487594447838103) rfl rfl (any_of HT_.out (by kernel_rfl)) (fun _ _ _ h => h) (Or.inl ⟨by rfl, ?_⟩) ?_ ?_; rotate_left
 ·intro w'
  go_simp
  with_reducible rfl
 rotate_left
 ·simp only [Act.put, sA, sZ, sS, i64_w, i32_w]
  rfl
 refine take_ (i := 3) (N := some 16) (v := ?_) (a' := ?_) (bzA 53 487594447838111) rfl rfl (take_ofW HT_.out HW_.out (by kernel_rfl)) (fun _ _ _ h => h) (Or.inl ⟨by rfl, ?_⟩) hHeld ?_ ?_; rotate_left
 ·intro w' s0
  go_simp
  with_reducible rfl
 rotate_left
 ·simp only [Act.put, sA, sZ, sS, i64_w, i32_w]
  rfl
 refine take_ (i := 10) (N := some 23) (v := ?_) (a' := ?_) (bzA 53 487594447839135) rfl rfl (take_ofW HT_.out HW_.out (by kernel_rfl)) (fun _ _ _ h => h) (Or.inl ⟨by rfl, ?_⟩) hHeld ?_ ?_; rotate_left
 ·intro w' s0
  go_simp
  with_reducible rfl
 rotate_left
 ·simp only [Act.put, sA, sZ, sS, i64_w, i32_w]
  rfl
 refine take_ (i := 18) (N := some 31) (v := ?_) (a' := ?_) (bzA 53 487594448101279) rfl rfl (take_ofW HT_.out HW_.out (by kernel_rfl)) (fun _ _ _ h => h) (Or.inl ⟨by rfl, ?_⟩) hHeld ?_ ?_; rotate_left
 ·intro w' s0
  go_simp
  with_reducible rfl
 rotate_left
 ·simp only [Act.put, sA, sZ, sS, i64_w, i32_w]
  rfl
 refine take_ (i := 25) (N := some 38) (v := ?_) (a' := ?_) (bzA 53 487594481655711) rfl rfl (take_ofW HT_.out HW_.out (by kernel_rfl)) (fun _ _ _ h => h) (Or.inl ⟨by rfl, ?_⟩) hHeld ?_ ?_; rotate_left
 ·intro w' s0
  go_simp
  with_reducible rfl
 rotate_left
 ·simp only [Act.put, sA, sZ, sS, i64_w, i32_w]
  rfl
 refine take_ (i := 32) (N := some 45) (v := ?_) (a' := ?_) (bzA 53 487598776623007) rfl rfl (take_ofW HT_.out HW_.out (by kernel_rfl)) (fun _ _ _ h => h) (Or.inl ⟨by rfl, ?_⟩) hHeld ?_ ?_; rotate_left
 ·intro w' s0
  go_simp
  with_reducible rfl
 rotate_left
 ·simp only [Act.put, sA, sZ, sS, i64_w, i32_w]
  rfl
 refine take_ (i := 39) (N := some 52) (v := ?_) (a' := ?_) (bzA 53 488148532436895) rfl rfl (take_ofW HT_.out HW_.out (by kernel_rfl)) (fun _ _ _ h => h) (Or.inl ⟨by rfl, ?_⟩) hHeld ?_ ?_; rotate_left
 ·intro w' s0
  go_simp
  with_reducible rfl
 rotate_left
 ·simp only [Act.put, sA, sZ, sS, i64_w, i32_w]
  rfl
 refine take_ (i := 46) (N := some 59) (v := ?_) (a' := ?_) (bzA 53 558517276614559) rfl rfl (take_ofW HT_.out HW_.out (by kernel_rfl)) (fun _ _ _ h => h) (Or.inl ⟨by rfl, ?_⟩) hHeld ?_ ?_; rotate_left
 ·intro w' s0
  go_simp
  with_reducible rfl
 rotate_left
 ·simp only [Act.put, sA, sZ, sS, i64_w, i32_w]
  rfl
 refine join_ (σ := Nat) 1 (bzA 53 4503599627370495) (fun s => [(18, (.int .u64 (getV l p 4))), (19, .int .u32 (IntKind.u32.wrap (getV l p 4))), (26, (.int .u64 (getV l (IntKind.u64.wrap (p + 4)) 4))), (27, .int .u32 (IntKind.u32.wrap (getV l (IntKind.u64.wrap (p + 4)) 4))), (34, (.int .u64 (getV l (IntKind.u64.wrap (p + 8)) 8))), (41, (.int .u64 (getV l (IntKind.u64.wrap (p + 16)) 8))), (48, (.int .u64 (getV l (IntKind.u64.wrap (p + 32)) 8))), (55, (.int .u64 (getV l (IntKind.u64.wrap (p + 40)) 8))), (62, (.int .u64 (getV l (IntKind.u64.wrap (p + 48)) 8))), (63, .agg (cells50 (progX l p))), (5, .pointer (some ⟨s, 0, none⟩))]) (fun s w' => Rdr w' gb A0 c0 l ty en (.slice AP ps.length cP) nd ∧ Kd.R k50 50 w' w0.heap.size (fun k => k ≠ s) (.slice AP ps.length cP) ps ∧ Below w0.heap.size w0 w' ∧ w'.heap[s]? = some (.cells zero50 50 (0, 0)) ∧ w0.heap.size ≤ s ∧ gb ≠ s) ?_ ?_; rotate_left
 ·intro hJ5_13_21_28_35_42_49_51; refine join_ (σ := Unit) 2 (bzA 53 2251799813685247) (fun _ => [(18, (.int .u64 (getV l p 4))), (19, .int .u32 (IntKind.u32.wrap (getV l p 4))), (26, (.int .u64 (getV l (IntKind.u64.wrap (p + 4)) 4))), (27, .int .u32 (IntKind.u32.wrap (getV l (IntKind.u64.wrap (p + 4)) 4))), (34, (.int .u64 (getV l (IntKind.u64.wrap (p + 8)) 8))), (41, (.int .u64 (getV l (IntKind.u64.wrap (p + 16)) 8))), (48, (.int .u64 (getV l (IntKind.u64.wrap (p + 32)) 8))), (55, (.int .u64 (getV l (IntKind.u64.wrap (p + 40)) 8))), (62, (.int .u64 (getV l (IntKind.u64.wrap (p + 48)) 8))), (63, .agg (cells50 (progX l p)))]) (fun _ w' => Rdr w' gb A0 c0 l ty en (.slice AP ps.length cP) nd ∧ Kd.R k50 50 w' w0.heap.size (fun _ => True) (.slice AP ps.length cP) ps ∧ Below w0.heap.size w0 w') ?_ ?_; rotate_left
  ·intro hJ5_13_21_28_35_42_49; refine join_ (σ := Nat) 3 (bzA 53 2814749767106559) (fun s => [(18, (.int .u64 (getV l p 4))), (19, .int .u32 (IntKind.u32.wrap (getV l p 4))), (26, (.int .u64 (getV l (IntKind.u64.wrap (p + 4)) 4))), (27, .int .u32 (IntKind.u32.wrap (getV l (IntKind.u64.wrap (p + 4)) 4))), (34, (.int .u64 (getV l (IntKind.u64.wrap (p + 8)) 8))), (41, (.int .u64 (getV l (IntKind.u64.wrap (p + 16)) 8))), (48, (.int .u64 (getV l (IntKind.u64.wrap (p + 32)) 8))), (55, (.int .u64 (getV l (IntKind.u64.wrap (p + 40)) 8))), (5, .pointer (some ⟨s, 0, none⟩))]) (fun s w' => Rdr w' gb A0 c0 l ty en (.slice AP ps.length cP) nd ∧ Kd.R k50 50 w' w0.heap.size (fun k => k ≠ s) (.slice AP ps.length cP) ps ∧ Below w0.heap.size w0 w' ∧ w'.heap[s]? = some (.cells zero50 50 (0, 0)) ∧ w0.heap.size ≤ s ∧ gb ≠ s) ?_ ?_; rotate_left
   ·intro hJ5_13_21_28_35_42_51; refine join_ (σ := Unit) 4 (bzA 53 562949953421311) (fun _ => [(18, (.int .u64 (getV l p 4))), (19, .int .u32 (IntKind.u32.wrap (getV l p 4))), (26, (.int .u64 (getV l (IntKind.u64.wrap (p + 4)) 4))), (27, .int .u32 (IntKind.u32.wrap (getV l (IntKind.u64.wrap (p + 4)) 4))), (34, (.int .u64 (getV l (IntKind.u64.wrap (p + 8)) 8))), (41, (.int .u64 (getV l (IntKind.u64.wrap (p + 16)) 8))), (48, (.int .u64 (getV l (IntKind.u64.wrap (p + 32)) 8))), (55, (.int .u64 (getV l (IntKind.u64.wrap (p + 40)) 8)))]) (fun _ w' => Rdr w' gb A0 c0 l ty en (.slice AP ps.length cP) nd ∧ Kd.R k50 50 w' w0.heap.size (fun _ => True) (.slice AP ps.length cP) ps ∧ Below w0.heap.size w0 w') ?_ ?_; rotate_left
    ·intro hJ5_13_21_28_35_42; refine join_ (σ := Nat) 4 (bzA 53 2810351720595455) (fun s => [(18, (.int .u64 (getV l p 4))), (19, .int .u32 (IntKind.u32.wrap (getV l p 4))), (26, (.int .u64 (getV l (IntKind.u64.wrap (p + 4)) 4))), (27, .int .u32 (IntKind.u32.wrap (getV l (IntKind.u64.wrap (p + 4)) 4))), (34, (.int .u64 (getV l (IntKind.u64.wrap (p + 8)) 8))), (41, (.int .u64 (getV l (IntKind.u64.wrap (p + 16)) 8))), (48, (.int .u64 (getV l (IntKind.u64.wrap (p + 32)) 8))), (5, .pointer (some ⟨s, 0, none⟩))]) (fun s w' => Rdr w' gb A0 c0 l ty en (.slice AP ps.length cP) nd ∧ Kd.R k50 50 w' w0.heap.size (fun k => k ≠ s) (.slice AP ps.length cP) ps ∧ Below w0.heap.size w0 w' ∧ w'.heap[s]? = some (.cells zero50 50 (0, 0)) ∧ w0.heap.size ≤ s ∧ gb ≠ s) ?_ ?_; rotate_left
     ·intro hJ5_13_21_28_35_51; refine join_ (σ := Unit) 5 (bzA 53 558551906910207) (fun _ => [(18, (.int .u64 (getV l p 4))), (19, .int .u32 (IntKind.u32.wrap (getV l p 4))), (26, (.int .u64 (getV l (IntKind.u64.wrap (p + 4)) 4))), (27, .int .u32 (IntKind.u32.wrap (getV l (IntKind.u64.wrap (p + 4)) 4))), (34, (.int .u64 (getV l (IntKind.u64.wrap (p + 8)) 8))), (41, (.int .u64 (getV l (IntKind.u64.wrap (p + 16)) 8))), (48, (.int .u64 (getV l (IntKind.u64.wrap (p + 32)) 8)))]) (fun _ w' => Rdr w' gb A0 c0 l ty en (.slice AP ps.length cP) nd ∧ Kd.R k50 50 w' w0.heap.size (fun _ => True) (.slice AP ps.length cP) ps ∧ Below w0.heap.size w0 w') ?_ ?_; rotate_left
      ·intro hJ5_13_21_28_35; refine join_ (σ := Nat) 5 (bzA 53 2810317360857087) (fun s => [(18, (.int .u64 (getV l p 4))), (19, .int .u32 (IntKind.u32.wrap (getV l p 4))), (26, (.int .u64 (getV l (IntKind.u64.wrap (p + 4)) 4))), (27, .int .u32 (IntKind.u32.wrap (getV l (IntKind.u64.wrap (p + 4)) 4))), (34, (.int .u64 (getV l (IntKind.u64.wrap (p + 8)) 8))), (41, (.int .u64 (getV l (IntKind.u64.wrap (p + 16)) 8))), (5, .pointer (some ⟨s, 0, none⟩))]) (fun s w' => Rdr w' gb A0 c0 l ty en (.slice AP ps.length cP) nd ∧ Kd.R k50 50 w' w0.heap.size (fun k => k ≠ s) (.slice AP ps.length cP) ps ∧ Below w0.heap.size w0 w' ∧ w'.heap[s]? = some (.cells zero50 50 (0, 0)) ∧ w0.heap.size ≤ s ∧ gb ≠ s) ?_ ?_; rotate_left
       ·intro hJ5_13_21_28_51; refine join_ (σ := Unit) 6 (bzA 53 558517547171839) (fun _ => [(18, (.int .u64 (getV l p 4))), (19, .int .u32 (IntKind.u32.wrap (getV l p 4))), (26, (.int .u64 (getV l (IntKind.u64.wrap (p + 4)) 4))), (27, .int .u32 (IntKind.u32.wrap (getV l (IntKind.u64.wrap (p + 4)) 4))), (34, (.int .u64 (getV l (IntKind.u64.wrap (p + 8)) 8))), (41, (.int .u64 (getV l (IntKind.u64.wrap (p + 16)) 8)))]) (fun _ w' => Rdr w' gb A0 c0 l ty en (.slice AP ps.length cP) nd ∧ Kd.R k50 50 w' w0.heap.size (fun _ => True) (.slice AP ps.length cP) ps ∧ Below w0.heap.size w0 w') ?_ ?_; rotate_left
        ·intro hJ5_13_21_28; refine join_ (σ := Nat) 6 (bzA 53 2810317092421631) (fun s => [(18, (.int .u64 (getV l p 4))), (19, .int .u32 (IntKind.u32.wrap (getV l p 4))), (26, (.int .u64 (getV l (IntKind.u64.wrap (p + 4)) 4))), (27, .int .u32 (IntKind.u32.wrap (getV l (IntKind.u64.wrap (p + 4)) 4))), (34, (.int .u64 (getV l (IntKind.u64.wrap (p + 8)) 8))), (5, .pointer (some ⟨s, 0, none⟩))]) (fun s w' => Rdr w' gb A0 c0 l ty en (.slice AP ps.length cP) nd ∧ Kd.R k50 50 w' w0.heap.size (fun k => k ≠ s) (.slice AP ps.length cP) ps ∧ Below w0.heap.size w0 w' ∧ w'.heap[s]? = some (.cells zero50 50 (0, 0)) ∧ w0.heap.size ≤ s ∧ gb ≠ s) ?_ ?_; rotate_left
         ·intro hJ5_13_21_51; refine join_ (σ := Unit) 7 (bzA 53 558517278736383) (fun _ => [(18, (.int .u64 (getV l p 4))), (19, .int .u32 (IntKind.u32.wrap (getV l p 4))), (26, (.int .u64 (getV l (IntKind.u64.wrap (p + 4)) 4))), (27, .int .u32 (IntKind.u32.wrap (getV l (IntKind.u64.wrap (p + 4)) 4))), (34, (.int .u64 (getV l (IntKind.u64.wrap (p + 8)) 8)))]) (fun _ w' => Rdr w' gb A0 c0 l ty en (.slice AP ps.length cP) nd ∧ Kd.R k50 50 w' w0.heap.size (fun _ => True) (.slice AP ps.length cP) ps ∧ Below w0.heap.size w0 w') ?_ ?_; rotate_left
          ·intro hJ5_13_21; refine join_ (σ := Nat) 7 (bzA 53 2810317090324479) (fun s => [(18, (.int .u64 (getV l p 4))), (19, .int .u32 (IntKind.u32.wrap (getV l p 4))), (26, (.int .u64 (getV l (IntKind.u64.wrap (p + 4)) 4))), (27, .int .u32 (IntKind.u32.wrap (getV l (IntKind.u64.wrap (p + 4)) 4))), (5, .pointer (some ⟨s, 0, none⟩))]) (fun s w' => Rdr w' gb A0 c0 l ty en (.slice AP ps.length cP) nd ∧ Kd.R k50 50 w' w0.heap.size (fun k => k ≠ s) (.slice AP ps.length cP) ps ∧ Below w0.heap.size w0 w' ∧ w'.heap[s]? = some (.cells zero50 50 (0, 0)) ∧ w0.heap.size ≤ s ∧ gb ≠ s) ?_ ?_; rotate_left
           ·intro hJ5_13_51; refine join_ (σ := Unit) 8 (bzA 53 558517276639231) (fun _ => [(18, (.int .u64 (getV l p 4))), (19, .int .u32 (IntKind.u32.wrap (getV l p 4))), (26, (.int .u64 (getV l (IntKind.u64.wrap (p + 4)) 4))), (27, .int .u32 (IntKind.u32.wrap (getV l (IntKind.u64.wrap (p + 4)) 4)))]) (fun _ w' => Rdr w' gb A0 c0 l ty en (.slice AP ps.length cP) nd ∧ Kd.R k50 50 w' w0.heap.size (fun _ => True) (.slice AP ps.length cP) ps ∧ Below w0.heap.size w0 w') ?_ ?_; rotate_left
            ·intro hJ5_13; refine join_ (σ := Nat) 9 (bzA 53 2810317090299903) (fun s => [(18, (.int .u64 (getV l p 4))), (19, .int .u32 (IntKind.u32.wrap (getV l p 4))), (5, .pointer (some ⟨s, 0, none⟩))]) (fun s w' => Rdr w' gb A0 c0 l ty en (.slice AP ps.length cP) nd ∧ Kd.R k50 50 w' w0.heap.size (fun k => k ≠ s) (.slice AP ps.length cP) ps ∧ Below w0.heap.size w0 w' ∧ w'.heap[s]? = some (.cells zero50 50 (0, 0)) ∧ w0.heap.size ≤ s ∧ gb ≠ s) ?_ ?_; rotate_left
             ·intro hJ5_51; refine join_ (σ := Unit) 10 (bzA 53 558517276614655) (fun _ => [(18, (.int .u64 (getV l p 4))), (19, .int .u32 (IntKind.u32.wrap (getV l p 4)))]) (fun _ w' => Rdr w' gb A0 c0 l ty en (.slice AP ps.length cP) nd ∧ Kd.R k50 50 w' w0.heap.size (fun _ => True) (.slice AP ps.length cP) ps ∧ Below w0.heap.size w0 w') ?_ ?_; rotate_left
              ·intro hJ5; refine join_ (σ := Nat) 11 (bzA 53 2810317090299807) (fun s => [(5, .pointer (some ⟨s, 0, none⟩))]) (fun s w' => Rdr w' gb A0 c0 l ty en (.slice AP ps.length cP) nd ∧ Kd.R k50 50 w' w0.heap.size (fun k => k ≠ s) (.slice AP ps.length cP) ps ∧ Below w0.heap.size w0 w' ∧ w'.heap[s]? = some (.cells zero50 50 (0, 0)) ∧ w0.heap.size ≤ s ∧ gb ≠ s) ?_ ?_; rotate_left
               ·intro hJ51; refine two_ (i := 5) (j := 51) (Ni := some 18) (Nj := some 5) (bzA 53 558517276614591) (bzA 53 2810317090299807) rfl rfl rfl rfl (two_of HT_.out (by kernel_rfl)) (by decide) (by decide) (fun K hK => ?_) (fun K hK => ?_)
                ·skip
                 refine goes_ Tryd.func24 (by kernel_rfl) rfl #[.agg #[.slice A0 l.length c0], .int .u64 p, .int .i64 4] (by rfl) rfl rfl (by simp only [List.map_toArray, List.map_cons, List.map_nil]; rfl) ?_
                 with_reducible refine (get_at A0 c0 l _ _ _ (Kd.C_below HCC.out HB.out) HNN.out.2.2.2.2 HNN.out.1 HNN.out.2.2.1 HNN.out.2.2.2.1 (by decide)).mono ?_
                 rintro e w3 ⟨rfl, hb⟩; refine ⟨_, rfl, ?_⟩; have HR2 := aM (HR.out.below hb); have HP2 := aM (Kd.R_below HP.out hb); have HB2 := aM (below_step HB.out hb); refine hK.out _ _ (HR2.out.c0) (fun hHeld => ?_); clear hK K; refine norm_ (a' := ?_) ?_ ?_; rotate_left
                 ·show Act.put _ (some 18) _ = _
                  simp only [Act.put, sA, sZ, sS, i64_w, i32_w]
                  rfl
                 refine pure_ (i := 6) (N := some 19) (v := ?_) (a' := ?_) (bzA 53 558517276614655) rfl rfl (any_of HT_.out (by kernel_rfl)) (fun _ _ _ h => h) (Or.inl ⟨by rfl, ?_⟩) ?_ ?_; rotate_left
                 ·intro w'
                  go_simp
                  with_reducible rfl
                 rotate_left
                 ·simp only [Act.put, sA, sZ, sS, i64_w, i32_w]
                  rfl
                 exact norm_ (by first | (simp only [putAll, Act.put, sA, sZ, sS]; done) | (simp only [putAll, Act.put, sA, sZ, sS]; rfl)) (hJ5 () _ ⟨HR2.out, HP2.out, HB2.out⟩)
                ·skip
                 refine value_ (w1 := ?_) (v := ?_) (by rfl) rfl ?_ ?_; rotate_left 2
                 ·go_simp
                  constructor
                  ·rfl
                  ·rfl
                 have HX2 := aM (Rdr.alc HR.out (.cells zero50 50)); have HR2 := aM (HR.out.below (below_alloc (Below.refl _ _) (.cells zero50 50))); have HP2 := aM (Kd.R_mono (Kd.R_alloc (Kd.R_elderB HP.out _ (Nat.le_refl _)) (.cells zero50 50)) (fun k hk => hk.2)); have HB2 := aM (below_alloc HB.out (.cells zero50 50)); refine hK.out _ _ (HR2.out.c0) (fun hHeld => ?_); clear hK K; refine norm_ (a' := ?_) ?_ ?_; rotate_left
                 ·show Act.put _ (some 5) _ = _
                  simp only [Act.put, sA, sZ, sS, i64_w, i32_w]
                  rfl
                 exact norm_ (by first | (simp only [putAll, Act.put, sA, sZ, sS]; done) | (simp only [putAll, Act.put, sA, sZ, sS]; rfl)) (hJ51 _ _ ⟨HR2.out, HP2.out, HB2.out, HX2.out, below_size HB.out, Nat.ne_of_lt (blk_lt HR.out.at_)⟩)
               ·skip
                rintro gx wj ⟨hR_, hP_, hB_, hx_, hg_, hne_⟩; have HR := aM hR_; have HP := aM hP_; have HB := aM hB_; have HX := aM hx_; have HG := aM hg_; have HNE := aM hne_; clear hR_ hP_ hB_ hx_ hg_ hne_; have hHeld : wj.cell? ⟨gb, 0, none⟩ = some (.slice A0 l.length c0) := HR.out.c0; refine norm_ (a' := ?_) ?_ ?_; rotate_left
                ·simp only [putAll, Act.put, sA, sZ, sS]
                 rfl
                refine one_ (i := 5) (N := some 18) (bzA 53 2810317090299839) rfl rfl (one_of HT_.out (by kernel_rfl)) (by decide) (fun K hK => ?_); refine goes_ Tryd.func24 (by kernel_rfl) rfl #[.agg #[.slice A0 l.length c0], .int .u64 p, .int .i64 4] (by rfl) rfl rfl (by simp only [List.map_toArray, List.map_cons, List.map_nil]; rfl) ?_
                with_reducible refine (get_at A0 c0 l _ _ _ (Kd.C_below HCC.out HB.out) HNN.out.2.2.2.2 HNN.out.1 HNN.out.2.2.1 HNN.out.2.2.2.1 (by decide)).mono ?_
                rintro e w3 ⟨rfl, hb⟩; refine ⟨_, rfl, ?_⟩; have HR2 := aM (HR.out.below hb); have HP2 := aM (Kd.R_below HP.out hb); have HB2 := aM (below_step HB.out hb); have HX2 := aM (blk_below HX.out hb); refine hK.out _ _ (HR2.out.c0) (fun hHeld => ?_); clear hK K; refine norm_ (a' := ?_) ?_ ?_; rotate_left
                ·show Act.put _ (some 18) _ = _
                 simp only [Act.put, sA, sZ, sS, i64_w, i32_w]
                 rfl
                refine pure_ (i := 6) (N := some 19) (v := ?_) (a' := ?_) (bzA 53 2810317090299903) rfl rfl (any_of HT_.out (by kernel_rfl)) (fun _ _ _ h => h) (Or.inl ⟨by rfl, ?_⟩) ?_ ?_; rotate_left
                ·intro w'
                 go_simp
                 with_reducible rfl
                rotate_left
                ·simp only [Act.put, sA, sZ, sS, i64_w, i32_w]
                 rfl
                exact norm_ (by first | (simp only [putAll, Act.put, sA, sZ, sS]; done) | (simp only [putAll, Act.put, sA, sZ, sS]; rfl)) (hJ5_51 gx _ ⟨HR2.out, HP2.out, HB2.out, HX2.out, HG.out, HNE.out⟩)
              ·skip
               rintro _ wj ⟨hR_, hP_, hB_⟩; have HR := aM hR_; have HP := aM hP_; have HB := aM hB_; clear hR_ hP_ hB_; have hHeld : wj.cell? ⟨gb, 0, none⟩ = some (.slice A0 l.length c0) := HR.out.c0; refine norm_ (a' := ?_) ?_ ?_; rotate_left
               ·simp only [putAll, Act.put, sA, sZ, sS]
                rfl
               refine two_ (i := 13) (j := 51) (Ni := some 26) (Nj := some 5) (bzA 53 558517276622847) (bzA 53 2810317090299903) rfl rfl rfl rfl (two_of HT_.out (by kernel_rfl)) (by decide) (by decide) (fun K hK => ?_) (fun K hK => ?_)
               ·skip
                refine goes_ Tryd.func24 (by kernel_rfl) rfl #[.agg #[.slice A0 l.length c0], .int .u64 (IntKind.u64.wrap (p + 4)), .int .i64 4] (by rfl) rfl rfl (by simp only [List.map_toArray, List.map_cons, List.map_nil]; rfl) ?_
                with_reducible refine (get_at A0 c0 l _ _ _ (Kd.C_below HCC.out HB.out) HNN.out.2.2.2.2 HNN.out.1 (hd_wrap_in _).1 (hd_wrap_in _).2 (by decide)).mono ?_
                rintro e w3 ⟨rfl, hb⟩; refine ⟨_, rfl, ?_⟩; have HR2 := aM (HR.out.below hb); have HP2 := aM (Kd.R_below HP.out hb); have HB2 := aM (below_step HB.out hb); refine hK.out _ _ (HR2.out.c0) (fun hHeld => ?_); clear hK K; refine norm_ (a' := ?_) ?_ ?_; rotate_left
                ·show Act.put _ (some 26) _ = _
                 simp only [Act.put, sA, sZ, sS, i64_w, i32_w]
                 rfl
                refine pure_ (i := 14) (N := some 27) (v := ?_) (a' := ?_) (bzA 53 558517276639231) rfl rfl (any_of HT_.out (by kernel_rfl)) (fun _ _ _ h => h) (Or.inl ⟨by rfl, ?_⟩) ?_ ?_; rotate_left
                ·intro w'
                 go_simp
                 with_reducible rfl
                rotate_left
                ·simp only [Act.put, sA, sZ, sS, i64_w, i32_w]
                 rfl
                exact norm_ (by first | (simp only [putAll, Act.put, sA, sZ, sS]; done) | (simp only [putAll, Act.put, sA, sZ, sS]; rfl)) (hJ5_13 () _ ⟨HR2.out, HP2.out, HB2.out⟩)
               ·skip
                refine value_ (w1 := ?_) (v := ?_) (by rfl) rfl ?_ ?_; rotate_left 2
                ·go_simp
                 constructor
                 ·rfl
                 ·rfl
                have HX2 := aM (Rdr.alc HR.out (.cells zero50 50)); have HR2 := aM (HR.out.below (below_alloc (Below.refl _ _) (.cells zero50 50))); have HP2 := aM (Kd.R_mono (Kd.R_alloc (Kd.R_elderB HP.out _ (Nat.le_refl _)) (.cells zero50 50)) (fun k hk => hk.2)); have HB2 := aM (below_alloc HB.out (.cells zero50 50)); refine hK.out _ _ (HR2.out.c0) (fun hHeld => ?_); clear hK K; refine norm_ (a' := ?_) ?_ ?_; rotate_left
                ·show Act.put _ (some 5) _ = _
                 simp only [Act.put, sA, sZ, sS, i64_w, i32_w]
                 rfl
                exact norm_ (by first | (simp only [putAll, Act.put, sA, sZ, sS]; done) | (simp only [putAll, Act.put, sA, sZ, sS]; rfl)) (hJ5_51 _ _ ⟨HR2.out, HP2.out, HB2.out, HX2.out, below_size HB.out, Nat.ne_of_lt (blk_lt HR.out.at_)⟩)
             ·skip
              rintro gx wj ⟨hR_, hP_, hB_, hx_, hg_, hne_⟩; have HR := aM hR_; have HP := aM hP_; have HB := aM hB_; have HX := aM hx_; have HG := aM hg_; have HNE := aM hne_; clear hR_ hP_ hB_ hx_ hg_ hne_; have hHeld : wj.cell? ⟨gb, 0, none⟩ = some (.slice A0 l.length c0) := HR.out.c0; refine norm_ (a' := ?_) ?_ ?_; rotate_left
              ·simp only [putAll, Act.put, sA, sZ, sS]
               rfl
              refine one_ (i := 13) (N := some 26) (bzA 53 2810317090308095) rfl rfl (one_of HT_.out (by kernel_rfl)) (by decide) (fun K hK => ?_); refine goes_ Tryd.func24 (by kernel_rfl) rfl #[.agg #[.slice A0 l.length c0], .int .u64 (IntKind.u64.wrap (p + 4)), .int .i64 4] (by rfl) rfl rfl (by simp only [List.map_toArray, List.map_cons, List.map_nil]; rfl) ?_
              with_reducible refine (get_at A0 c0 l _ _ _ (Kd.C_below HCC.out HB.out) HNN.out.2.2.2.2 HNN.out.1 (hd_wrap_in _).1 (hd_wrap_in _).2 (by decide)).mono ?_
              rintro e w3 ⟨rfl, hb⟩; refine ⟨_, rfl, ?_⟩; have HR2 := aM (HR.out.below hb); have HP2 := aM (Kd.R_below HP.out hb); have HB2 := aM (below_step HB.out hb); have HX2 := aM (blk_below HX.out hb); refine hK.out _ _ (HR2.out.c0) (fun hHeld => ?_); clear hK K; refine norm_ (a' := ?_) ?_ ?_; rotate_left
              ·show Act.put _ (some 26) _ = _
               simp only [Act.put, sA, sZ, sS, i64_w, i32_w]
               rfl
              refine pure_ (i := 14) (N := some 27) (v := ?_) (a' := ?_) (bzA 53 2810317090324479) rfl rfl (any_of HT_.out (by kernel_rfl)) (fun _ _ _ h => h) (Or.inl ⟨by rfl, ?_⟩) ?_ ?_; rotate_left
              ·intro w'
               go_simp
               with_reducible rfl
              rotate_left
              ·simp only [Act.put, sA, sZ, sS, i64_w, i32_w]
               rfl
              exact norm_ (by first | (simp only [putAll, Act.put, sA, sZ, sS]; done) | (simp only [putAll, Act.put, sA, sZ, sS]; rfl)) (hJ5_13_51 gx _ ⟨HR2.out, HP2.out, HB2.out, HX2.out, HG.out, HNE.out⟩)
            ·skip
             rintro _ wj ⟨hR_, hP_, hB_⟩; have HR := aM hR_; have HP := aM hP_; have HB := aM hB_; clear hR_ hP_ hB_; have hHeld : wj.cell? ⟨gb, 0, none⟩ = some (.slice A0 l.length c0) := HR.out.c0; refine norm_ (a' := ?_) ?_ ?_; rotate_left
             ·simp only [putAll, Act.put, sA, sZ, sS]
              rfl
             refine two_ (i := 21) (j := 51) (Ni := some 34) (Nj := some 5) (bzA 53 558517278736383) (bzA 53 2810317090324479) rfl rfl rfl rfl (two_of HT_.out (by kernel_rfl)) (by decide) (by decide) (fun K hK => ?_) (fun K hK => ?_)
             ·skip
              refine goes_ Tryd.func24 (by kernel_rfl) rfl #[.agg #[.slice A0 l.length c0], .int .u64 (IntKind.u64.wrap (p + 8)), .int .i64 8] (by rfl) rfl rfl (by simp only [List.map_toArray, List.map_cons, List.map_nil]; rfl) ?_
              with_reducible refine (get_at A0 c0 l _ _ _ (Kd.C_below HCC.out HB.out) HNN.out.2.2.2.2 HNN.out.1 (hd_wrap_in _).1 (hd_wrap_in _).2 (by decide)).mono ?_
              rintro e w3 ⟨rfl, hb⟩; refine ⟨_, rfl, ?_⟩; have HR2 := aM (HR.out.below hb); have HP2 := aM (Kd.R_below HP.out hb); have HB2 := aM (below_step HB.out hb); refine hK.out _ _ (HR2.out.c0) (fun hHeld => ?_); clear hK K; refine norm_ (a' := ?_) ?_ ?_; rotate_left
              ·show Act.put _ (some 34) _ = _
               simp only [Act.put, sA, sZ, sS, i64_w, i32_w]
               rfl
              exact norm_ (by first | (simp only [putAll, Act.put, sA, sZ, sS]; done) | (simp only [putAll, Act.put, sA, sZ, sS]; rfl)) (hJ5_13_21 () _ ⟨HR2.out, HP2.out, HB2.out⟩)
             ·skip
              refine value_ (w1 := ?_) (v := ?_) (by rfl) rfl ?_ ?_; rotate_left 2
              ·go_simp
               constructor
               ·rfl
               ·rfl
              have HX2 := aM (Rdr.alc HR.out (.cells zero50 50)); have HR2 := aM (HR.out.below (below_alloc (Below.refl _ _) (.cells zero50 50))); have HP2 := aM (Kd.R_mono (Kd.R_alloc (Kd.R_elderB HP.out _ (Nat.le_refl _)) (.cells zero50 50)) (fun k hk => hk.2)); have HB2 := aM (below_alloc HB.out (.cells zero50 50)); refine hK.out _ _ (HR2.out.c0) (fun hHeld => ?_); clear hK K; refine norm_ (a' := ?_) ?_ ?_; rotate_left
              ·show Act.put _ (some 5) _ = _
               simp only [Act.put, sA, sZ, sS, i64_w, i32_w]
               rfl
              exact norm_ (by first | (simp only [putAll, Act.put, sA, sZ, sS]; done) | (simp only [putAll, Act.put, sA, sZ, sS]; rfl)) (hJ5_13_51 _ _ ⟨HR2.out, HP2.out, HB2.out, HX2.out, below_size HB.out, Nat.ne_of_lt (blk_lt HR.out.at_)⟩)
           ·skip
            rintro gx wj ⟨hR_, hP_, hB_, hx_, hg_, hne_⟩; have HR := aM hR_; have HP := aM hP_; have HB := aM hB_; have HX := aM hx_; have HG := aM hg_; have HNE := aM hne_; clear hR_ hP_ hB_ hx_ hg_ hne_; have hHeld : wj.cell? ⟨gb, 0, none⟩ = some (.slice A0 l.length c0) := HR.out.c0; refine norm_ (a' := ?_) ?_ ?_; rotate_left
            ·simp only [putAll, Act.put, sA, sZ, sS]
             rfl
            refine one_ (i := 21) (N := some 34) (bzA 53 2810317092421631) rfl rfl (one_of HT_.out (by kernel_rfl)) (by decide) (fun K hK => ?_); refine goes_ Tryd.func24 (by kernel_rfl) rfl #[.agg #[.slice A0 l.length c0], .int .u64 (IntKind.u64.wrap (p + 8)), .int .i64 8] (by rfl) rfl rfl (by simp only [List.map_toArray, List.map_cons, List.map_nil]; rfl) ?_
            with_reducible refine (get_at A0 c0 l _ _ _ (Kd.C_below HCC.out HB.out) HNN.out.2.2.2.2 HNN.out.1 (hd_wrap_in _).1 (hd_wrap_in _).2 (by decide)).mono ?_
            rintro e w3 ⟨rfl, hb⟩; refine ⟨_, rfl, ?_⟩; have HR2 := aM (HR.out.below hb); have HP2 := aM (Kd.R_below HP.out hb); have HB2 := aM (below_step HB.out hb); have HX2 := aM (blk_below HX.out hb); refine hK.out _ _ (HR2.out.c0) (fun hHeld => ?_); clear hK K; refine norm_ (a' := ?_) ?_ ?_; rotate_left
            ·show Act.put _ (some 34) _ = _
             simp only [Act.put, sA, sZ, sS, i64_w, i32_w]
             rfl
            exact norm_ (by first | (simp only [putAll, Act.put, sA, sZ, sS]; done) | (simp only [putAll, Act.put, sA, sZ, sS]; rfl)) (hJ5_13_21_51 gx _ ⟨HR2.out, HP2.out, HB2.out, HX2.out, HG.out, HNE.out⟩)
          ·skip
           rintro _ wj ⟨hR_, hP_, hB_⟩; have HR := aM hR_; have HP := aM hP_; have HB := aM hB_; clear hR_ hP_ hB_; have hHeld : wj.cell? ⟨gb, 0, none⟩ = some (.slice A0 l.length c0) := HR.out.c0; refine norm_ (a' := ?_) ?_ ?_; rotate_left
           ·simp only [putAll, Act.put, sA, sZ, sS]
            rfl
           refine two_ (i := 28) (j := 51) (Ni := some 41) (Nj := some 5) (bzA 53 558517547171839) (bzA 53 2810317092421631) rfl rfl rfl rfl (two_of HT_.out (by kernel_rfl)) (by decide) (by decide) (fun K hK => ?_) (fun K hK => ?_)
           ·skip
            refine goes_ Tryd.func24 (by kernel_rfl) rfl #[.agg #[.slice A0 l.length c0], .int .u64 (IntKind.u64.wrap (p + 16)), .int .i64 8] (by rfl) rfl rfl (by simp only [List.map_toArray, List.map_cons, List.map_nil]; rfl) ?_
            with_reducible refine (get_at A0 c0 l _ _ _ (Kd.C_below HCC.out HB.out) HNN.out.2.2.2.2 HNN.out.1 (hd_wrap_in _).1 (hd_wrap_in _).2 (by decide)).mono ?_
            rintro e w3 ⟨rfl, hb⟩; refine ⟨_, rfl, ?_⟩; have HR2 := aM (HR.out.below hb); have HP2 := aM (Kd.R_below HP.out hb); have HB2 := aM (below_step HB.out hb); refine hK.out _ _ (HR2.out.c0) (fun hHeld => ?_); clear hK K; refine norm_ (a' := ?_) ?_ ?_; rotate_left
            ·show Act.put _ (some 41) _ = _
             simp only [Act.put, sA, sZ, sS, i64_w, i32_w]
             rfl
            exact norm_ (by first | (simp only [putAll, Act.put, sA, sZ, sS]; done) | (simp only [putAll, Act.put, sA, sZ, sS]; rfl)) (hJ5_13_21_28 () _ ⟨HR2.out, HP2.out, HB2.out⟩)
           ·skip
            refine value_ (w1 := ?_) (v := ?_) (by rfl) rfl ?_ ?_; rotate_left 2
            ·go_simp
             constructor
             ·rfl
             ·rfl
            have HX2 := aM (Rdr.alc HR.out (.cells zero50 50)); have HR2 := aM (HR.out.below (below_alloc (Below.refl _ _) (.cells zero50 50))); have HP2 := aM (Kd.R_mono (Kd.R_alloc (Kd.R_elderB HP.out _ (Nat.le_refl _)) (.cells zero50 50)) (fun k hk => hk.2)); have HB2 := aM (below_alloc HB.out (.cells zero50 50)); refine hK.out _ _ (HR2.out.c0) (fun hHeld => ?_); clear hK K; refine norm_ (a' := ?_) ?_ ?_; rotate_left
            ·show Act.put _ (some 5) _ = _
             simp only [Act.put, sA, sZ, sS, i64_w, i32_w]
             rfl
            exact norm_ (by first | (simp only [putAll, Act.put, sA, sZ, sS]; done) | (simp only [putAll, Act.put, sA, sZ, sS]; rfl)) (hJ5_13_21_51 _ _ ⟨HR2.out, HP2.out, HB2.out, HX2.out, below_size HB.out, Nat.ne_of_lt (blk_lt HR.out.at_)⟩)
         ·skip
          rintro gx wj ⟨hR_, hP_, hB_, hx_, hg_, hne_⟩; have HR := aM hR_; have HP := aM hP_; have HB := aM hB_; have HX := aM hx_; have HG := aM hg_; have HNE := aM hne_; clear hR_ hP_ hB_ hx_ hg_ hne_; have hHeld : wj.cell? ⟨gb, 0, none⟩ = some (.slice A0 l.length c0) := HR.out.c0; refine norm_ (a' := ?_) ?_ ?_; rotate_left
          ·simp only [putAll, Act.put, sA, sZ, sS]
           rfl
          refine one_ (i := 28) (N := some 41) (bzA 53 2810317360857087) rfl rfl (one_of HT_.out (by kernel_rfl)) (by decide) (fun K hK => ?_); refine goes_ Tryd.func24 (by kernel_rfl) rfl #[.agg #[.slice A0 l.length c0], .int .u64 (IntKind.u64.wrap (p + 16)), .int .i64 8] (by rfl) rfl rfl (by simp only [List.map_toArray, List.map_cons, List.map_nil]; rfl) ?_
          with_reducible refine (get_at A0 c0 l _ _ _ (Kd.C_below HCC.out HB.out) HNN.out.2.2.2.2 HNN.out.1 (hd_wrap_in _).1 (hd_wrap_in _).2 (by decide)).mono ?_
          rintro e w3 ⟨rfl, hb⟩; refine ⟨_, rfl, ?_⟩; have HR2 := aM (HR.out.below hb); have HP2 := aM (Kd.R_below HP.out hb); have HB2 := aM (below_step HB.out hb); have HX2 := aM (blk_below HX.out hb); refine hK.out _ _ (HR2.out.c0) (fun hHeld => ?_); clear hK K; refine norm_ (a' := ?_) ?_ ?_; rotate_left
          ·show Act.put _ (some 41) _ = _
           simp only [Act.put, sA, sZ, sS, i64_w, i32_w]
           rfl
          exact norm_ (by first | (simp only [putAll, Act.put, sA, sZ, sS]; done) | (simp only [putAll, Act.put, sA, sZ, sS]; rfl)) (hJ5_13_21_28_51 gx _ ⟨HR2.out, HP2.out, HB2.out, HX2.out, HG.out, HNE.out⟩)
        ·skip
         rintro _ wj ⟨hR_, hP_, hB_⟩; have HR := aM hR_; have HP := aM hP_; have HB := aM hB_; clear hR_ hP_ hB_; have hHeld : wj.cell? ⟨gb, 0, none⟩ = some (.slice A0 l.length c0) := HR.out.c0; refine norm_ (a' := ?_) ?_ ?_; rotate_left
         ·simp only [putAll, Act.put, sA, sZ, sS]
          rfl
         refine two_ (i := 35) (j := 51) (Ni := some 48) (Nj := some 5) (bzA 53 558551906910207) (bzA 53 2810317360857087) rfl rfl rfl rfl (two_of HT_.out (by kernel_rfl)) (by decide) (by decide) (fun K hK => ?_) (fun K hK => ?_)
         ·skip
          refine goes_ Tryd.func24 (by kernel_rfl) rfl #[.agg #[.slice A0 l.length c0], .int .u64 (IntKind.u64.wrap (p + 32)), .int .i64 8] (by rfl) rfl rfl (by simp only [List.map_toArray, List.map_cons, List.map_nil]; rfl) ?_
          with_reducible refine (get_at A0 c0 l _ _ _ (Kd.C_below HCC.out HB.out) HNN.out.2.2.2.2 HNN.out.1 (hd_wrap_in _).1 (hd_wrap_in _).2 (by decide)).mono ?_
          rintro e w3 ⟨rfl, hb⟩; refine ⟨_, rfl, ?_⟩; have HR2 := aM (HR.out.below hb); have HP2 := aM (Kd.R_below HP.out hb); have HB2 := aM (below_step HB.out hb); refine hK.out _ _ (HR2.out.c0) (fun hHeld => ?_); clear hK K; refine norm_ (a' := ?_) ?_ ?_; rotate_left
          ·show Act.put _ (some 48) _ = _
           simp only [Act.put, sA, sZ, sS, i64_w, i32_w]
           rfl
          exact norm_ (by first | (simp only [putAll, Act.put, sA, sZ, sS]; done) | (simp only [putAll, Act.put, sA, sZ, sS]; rfl)) (hJ5_13_21_28_35 () _ ⟨HR2.out, HP2.out, HB2.out⟩)
         ·skip
          refine value_ (w1 := ?_) (v := ?_) (by rfl) rfl ?_ ?_; rotate_left 2
          ·go_simp
           constructor
           ·rfl
           ·rfl
          have HX2 := aM (Rdr.alc HR.out (.cells zero50 50)); have HR2 := aM (HR.out.below (below_alloc (Below.refl _ _) (.cells zero50 50))); have HP2 := aM (Kd.R_mono (Kd.R_alloc (Kd.R_elderB HP.out _ (Nat.le_refl _)) (.cells zero50 50)) (fun k hk => hk.2)); have HB2 := aM (below_alloc HB.out (.cells zero50 50)); refine hK.out _ _ (HR2.out.c0) (fun hHeld => ?_); clear hK K; refine norm_ (a' := ?_) ?_ ?_; rotate_left
          ·show Act.put _ (some 5) _ = _
           simp only [Act.put, sA, sZ, sS, i64_w, i32_w]
           rfl
          exact norm_ (by first | (simp only [putAll, Act.put, sA, sZ, sS]; done) | (simp only [putAll, Act.put, sA, sZ, sS]; rfl)) (hJ5_13_21_28_51 _ _ ⟨HR2.out, HP2.out, HB2.out, HX2.out, below_size HB.out, Nat.ne_of_lt (blk_lt HR.out.at_)⟩)
       ·skip
        rintro gx wj ⟨hR_, hP_, hB_, hx_, hg_, hne_⟩; have HR := aM hR_; have HP := aM hP_; have HB := aM hB_; have HX := aM hx_; have HG := aM hg_; have HNE := aM hne_; clear hR_ hP_ hB_ hx_ hg_ hne_; have hHeld : wj.cell? ⟨gb, 0, none⟩ = some (.slice A0 l.length c0) := HR.out.c0; refine norm_ (a' := ?_) ?_ ?_; rotate_left
        ·simp only [putAll, Act.put, sA, sZ, sS]
         rfl
        refine one_ (i := 35) (N := some 48) (bzA 53 2810351720595455) rfl rfl (one_of HT_.out (by kernel_rfl)) (by decide) (fun K hK => ?_); refine goes_ Tryd.func24 (by kernel_rfl) rfl #[.agg #[.slice A0 l.length c0], .int .u64 (IntKind.u64.wrap (p + 32)), .int .i64 8] (by rfl) rfl rfl (by simp only [List.map_toArray, List.map_cons, List.map_nil]; rfl) ?_
        with_reducible refine (get_at A0 c0 l _ _ _ (Kd.C_below HCC.out HB.out) HNN.out.2.2.2.2 HNN.out.1 (hd_wrap_in _).1 (hd_wrap_in _).2 (by decide)).mono ?_
        rintro e w3 ⟨rfl, hb⟩; refine ⟨_, rfl, ?_⟩; have HR2 := aM (HR.out.below hb); have HP2 := aM (Kd.R_below HP.out hb); have HB2 := aM (below_step HB.out hb); have HX2 := aM (blk_below HX.out hb); refine hK.out _ _ (HR2.out.c0) (fun hHeld => ?_); clear hK K; refine norm_ (a' := ?_) ?_ ?_; rotate_left
        ·show Act.put _ (some 48) _ = _
         simp only [Act.put, sA, sZ, sS, i64_w, i32_w]
         rfl
        exact norm_ (by first | (simp only [putAll, Act.put, sA, sZ, sS]; done) | (simp only [putAll, Act.put, sA, sZ, sS]; rfl)) (hJ5_13_21_28_35_51 gx _ ⟨HR2.out, HP2.out, HB2.out, HX2.out, HG.out, HNE.out⟩)
      ·skip
       rintro _ wj ⟨hR_, hP_, hB_⟩; have HR := aM hR_; have HP := aM hP_; have HB := aM hB_; clear hR_ hP_ hB_; have hHeld : wj.cell? ⟨gb, 0, none⟩ = some (.slice A0 l.length c0) := HR.out.c0; refine norm_ (a' := ?_) ?_ ?_; rotate_left
       ·simp only [putAll, Act.put, sA, sZ, sS]
        rfl
       refine two_ (i := 42) (j := 51) (Ni := some 55) (Nj := some 5) (bzA 53 562949953421311) (bzA 53 2810351720595455) rfl rfl rfl rfl (two_of HT_.out (by kernel_rfl)) (by decide) (by decide) (fun K hK => ?_) (fun K hK => ?_)
       ·skip
        refine goes_ Tryd.func24 (by kernel_rfl) rfl #[.agg #[.slice A0 l.length c0], .int .u64 (IntKind.u64.wrap (p + 40)), .int .i64 8] (by rfl) rfl rfl (by simp only [List.map_toArray, List.map_cons, List.map_nil]; rfl) ?_
        with_reducible refine (get_at A0 c0 l _ _ _ (Kd.C_below HCC.out HB.out) HNN.out.2.2.2.2 HNN.out.1 (hd_wrap_in _).1 (hd_wrap_in _).2 (by decide)).mono ?_
        rintro e w3 ⟨rfl, hb⟩; refine ⟨_, rfl, ?_⟩; have HR2 := aM (HR.out.below hb); have HP2 := aM (Kd.R_below HP.out hb); have HB2 := aM (below_step HB.out hb); refine hK.out _ _ (HR2.out.c0) (fun hHeld => ?_); clear hK K; refine norm_ (a' := ?_) ?_ ?_; rotate_left
        ·show Act.put _ (some 55) _ = _
         simp only [Act.put, sA, sZ, sS, i64_w, i32_w]
         rfl
        exact norm_ (by first | (simp only [putAll, Act.put, sA, sZ, sS]; done) | (simp only [putAll, Act.put, sA, sZ, sS]; rfl)) (hJ5_13_21_28_35_42 () _ ⟨HR2.out, HP2.out, HB2.out⟩)
       ·skip
        refine value_ (w1 := ?_) (v := ?_) (by rfl) rfl ?_ ?_; rotate_left 2
        ·go_simp
         constructor
         ·rfl
         ·rfl
        have HX2 := aM (Rdr.alc HR.out (.cells zero50 50)); have HR2 := aM (HR.out.below (below_alloc (Below.refl _ _) (.cells zero50 50))); have HP2 := aM (Kd.R_mono (Kd.R_alloc (Kd.R_elderB HP.out _ (Nat.le_refl _)) (.cells zero50 50)) (fun k hk => hk.2)); have HB2 := aM (below_alloc HB.out (.cells zero50 50)); refine hK.out _ _ (HR2.out.c0) (fun hHeld => ?_); clear hK K; refine norm_ (a' := ?_) ?_ ?_; rotate_left
        ·show Act.put _ (some 5) _ = _
         simp only [Act.put, sA, sZ, sS, i64_w, i32_w]
         rfl
        exact norm_ (by first | (simp only [putAll, Act.put, sA, sZ, sS]; done) | (simp only [putAll, Act.put, sA, sZ, sS]; rfl)) (hJ5_13_21_28_35_51 _ _ ⟨HR2.out, HP2.out, HB2.out, HX2.out, below_size HB.out, Nat.ne_of_lt (blk_lt HR.out.at_)⟩)
     ·skip
      rintro gx wj ⟨hR_, hP_, hB_, hx_, hg_, hne_⟩; have HR := aM hR_; have HP := aM hP_; have HB := aM hB_; have HX := aM hx_; have HG := aM hg_; have HNE := aM hne_; clear hR_ hP_ hB_ hx_ hg_ hne_; have hHeld : wj.cell? ⟨gb, 0, none⟩ = some (.slice A0 l.length c0) := HR.out.c0; refine norm_ (a' := ?_) ?_ ?_; rotate_left
      ·simp only [putAll, Act.put, sA, sZ, sS]
       rfl
      refine one_ (i := 42) (N := some 55) (bzA 53 2814749767106559) rfl rfl (one_of HT_.out (by kernel_rfl)) (by decide) (fun K hK => ?_); refine goes_ Tryd.func24 (by kernel_rfl) rfl #[.agg #[.slice A0 l.length c0], .int .u64 (IntKind.u64.wrap (p + 40)), .int .i64 8] (by rfl) rfl rfl (by simp only [List.map_toArray, List.map_cons, List.map_nil]; rfl) ?_
      with_reducible refine (get_at A0 c0 l _ _ _ (Kd.C_below HCC.out HB.out) HNN.out.2.2.2.2 HNN.out.1 (hd_wrap_in _).1 (hd_wrap_in _).2 (by decide)).mono ?_
      rintro e w3 ⟨rfl, hb⟩; refine ⟨_, rfl, ?_⟩; have HR2 := aM (HR.out.below hb); have HP2 := aM (Kd.R_below HP.out hb); have HB2 := aM (below_step HB.out hb); have HX2 := aM (blk_below HX.out hb); refine hK.out _ _ (HR2.out.c0) (fun hHeld => ?_); clear hK K; refine norm_ (a' := ?_) ?_ ?_; rotate_left
      ·show Act.put _ (some 55) _ = _
       simp only [Act.put, sA, sZ, sS, i64_w, i32_w]
       rfl
      exact norm_ (by first | (simp only [putAll, Act.put, sA, sZ, sS]; done) | (simp only [putAll, Act.put, sA, sZ, sS]; rfl)) (hJ5_13_21_28_35_42_51 gx _ ⟨HR2.out, HP2.out, HB2.out, HX2.out, HG.out, HNE.out⟩)
    ·skip
     rintro _ wj ⟨hR_, hP_, hB_⟩; have HR := aM hR_; have HP := aM hP_; have HB := aM hB_; clear hR_ hP_ hB_; have hHeld : wj.cell? ⟨gb, 0, none⟩ = some (.slice A0 l.length c0) := HR.out.c0; refine norm_ (a' := ?_) ?_ ?_; rotate_left
     ·simp only [putAll, Act.put, sA, sZ, sS]
      rfl
     refine two_ (i := 49) (j := 51) (Ni := some 62) (Nj := some 5) (bzA 53 1125899906842623) (bzA 53 2814749767106559) rfl rfl rfl rfl (two_of HT_.out (by kernel_rfl)) (by decide) (by decide) (fun K hK => ?_) (fun K hK => ?_)
     ·skip
      refine goes_ Tryd.func24 (by kernel_rfl) rfl #[.agg #[.slice A0 l.length c0], .int .u64 (IntKind.u64.wrap (p + 48)), .int .i64 8] (by rfl) rfl rfl (by simp only [List.map_toArray, List.map_cons, List.map_nil]; rfl) ?_
      with_reducible refine (get_at A0 c0 l _ _ _ (Kd.C_below HCC.out HB.out) HNN.out.2.2.2.2 HNN.out.1 (hd_wrap_in _).1 (hd_wrap_in _).2 (by decide)).mono ?_
      rintro e w3 ⟨rfl, hb⟩; refine ⟨_, rfl, ?_⟩; have HR2 := aM (HR.out.below hb); have HP2 := aM (Kd.R_below HP.out hb); have HB2 := aM (below_step HB.out hb); refine hK.out _ _ (HR2.out.c0) (fun hHeld => ?_); clear hK K; refine norm_ (a' := ?_) ?_ ?_; rotate_left
      ·show Act.put _ (some 62) _ = _
       simp only [Act.put, sA, sZ, sS, i64_w, i32_w]
       rfl
      refine pure_ (i := 50) (N := some 63) (v := ?_) (a' := ?_) (bzA 53 2251799813685247) rfl rfl (any_of HT_.out (by kernel_rfl)) (fun _ _ _ h => h) (Or.inl ⟨by rfl, ?_⟩) ?_ ?_; rotate_left
      ·intro w'
       go_simp
       with_reducible rfl
      rotate_left
      ·simp only [Act.put, sA, sZ, sS, i64_w, i32_w]
       rfl
      exact norm_ (by first | (simp only [putAll, Act.put, sA, sZ, sS]; done) | (simp only [putAll, Act.put, sA, sZ, sS]; rfl)) (hJ5_13_21_28_35_42_49 () _ ⟨HR2.out, HP2.out, HB2.out⟩)
     ·skip
      refine value_ (w1 := ?_) (v := ?_) (by rfl) rfl ?_ ?_; rotate_left 2
      ·go_simp
       constructor
       ·rfl
       ·rfl
      have HX2 := aM (Rdr.alc HR.out (.cells zero50 50)); have HR2 := aM (HR.out.below (below_alloc (Below.refl _ _) (.cells zero50 50))); have HP2 := aM (Kd.R_mono (Kd.R_alloc (Kd.R_elderB HP.out _ (Nat.le_refl _)) (.cells zero50 50)) (fun k hk => hk.2)); have HB2 := aM (below_alloc HB.out (.cells zero50 50)); refine hK.out _ _ (HR2.out.c0) (fun hHeld => ?_); clear hK K; refine norm_ (a' := ?_) ?_ ?_; rotate_left
      ·show Act.put _ (some 5) _ = _
       simp only [Act.put, sA, sZ, sS, i64_w, i32_w]
       rfl
      exact norm_ (by first | (simp only [putAll, Act.put, sA, sZ, sS]; done) | (simp only [putAll, Act.put, sA, sZ, sS]; rfl)) (hJ5_13_21_28_35_42_51 _ _ ⟨HR2.out, HP2.out, HB2.out, HX2.out, below_size HB.out, Nat.ne_of_lt (blk_lt HR.out.at_)⟩)
   ·skip
    rintro gx wj ⟨hR_, hP_, hB_, hx_, hg_, hne_⟩; have HR := aM hR_; have HP := aM hP_; have HB := aM hB_; have HX := aM hx_; have HG := aM hg_; have HNE := aM hne_; clear hR_ hP_ hB_ hx_ hg_ hne_; have hHeld : wj.cell? ⟨gb, 0, none⟩ = some (.slice A0 l.length c0) := HR.out.c0; refine norm_ (a' := ?_) ?_ ?_; rotate_left
    ·simp only [putAll, Act.put, sA, sZ, sS]
     rfl
    refine one_ (i := 49) (N := some 62) (bzA 53 3377699720527871) rfl rfl (one_of HT_.out (by kernel_rfl)) (by decide) (fun K hK => ?_); refine goes_ Tryd.func24 (by kernel_rfl) rfl #[.agg #[.slice A0 l.length c0], .int .u64 (IntKind.u64.wrap (p + 48)), .int .i64 8] (by rfl) rfl rfl (by simp only [List.map_toArray, List.map_cons, List.map_nil]; rfl) ?_
    with_reducible refine (get_at A0 c0 l _ _ _ (Kd.C_below HCC.out HB.out) HNN.out.2.2.2.2 HNN.out.1 (hd_wrap_in _).1 (hd_wrap_in _).2 (by decide)).mono ?_
    rintro e w3 ⟨rfl, hb⟩; refine ⟨_, rfl, ?_⟩; have HR2 := aM (HR.out.below hb); have HP2 := aM (Kd.R_below HP.out hb); have HB2 := aM (below_step HB.out hb); have HX2 := aM (blk_below HX.out hb); refine hK.out _ _ (HR2.out.c0) (fun hHeld => ?_); clear hK K; refine norm_ (a' := ?_) ?_ ?_; rotate_left
    ·show Act.put _ (some 62) _ = _
     simp only [Act.put, sA, sZ, sS, i64_w, i32_w]
     rfl
    refine pure_ (i := 50) (N := some 63) (v := ?_) (a' := ?_) (bzA 53 4503599627370495) rfl rfl (any_of HT_.out (by kernel_rfl)) (fun _ _ _ h => h) (Or.inl ⟨by rfl, ?_⟩) ?_ ?_; rotate_left
    ·intro w'
     go_simp
     with_reducible rfl
    rotate_left
    ·simp only [Act.put, sA, sZ, sS, i64_w, i32_w]
     rfl
    exact norm_ (by first | (simp only [putAll, Act.put, sA, sZ, sS]; done) | (simp only [putAll, Act.put, sA, sZ, sS]; rfl)) (hJ5_13_21_28_35_42_49_51 gx _ ⟨HR2.out, HP2.out, HB2.out, HX2.out, HG.out, HNE.out⟩)
  ·skip
   rintro _ wj ⟨hR_, hP_, hB_⟩; have HR := aM hR_; have HP := aM hP_; have HB := aM hB_; clear hR_ hP_ hB_; have hHeld : wj.cell? ⟨gb, 0, none⟩ = some (.slice A0 l.length c0) := HR.out.c0; refine norm_ (a' := ?_) ?_ ?_; rotate_left
   ·simp only [putAll, Act.put, sA, sZ, sS]
    rfl
   refine one_ (i := 51) (N := some 5) (bzA 53 4503599627370495) rfl rfl (one_of HT_.out (by kernel_rfl)) (by decide) (fun K hK => ?_); refine value_ (w1 := ?_) (v := ?_) (by rfl) rfl ?_ ?_; rotate_left 2
   ·go_simp
    constructor
    ·rfl
    ·rfl
   have HX2 := aM (Rdr.alc HR.out (.cells zero50 50)); have HR2 := aM (HR.out.below (below_alloc (Below.refl _ _) (.cells zero50 50))); have HP2 := aM (Kd.R_mono (Kd.R_alloc (Kd.R_elderB HP.out _ (Nat.le_refl _)) (.cells zero50 50)) (fun k hk => hk.2)); have HB2 := aM (below_alloc HB.out (.cells zero50 50)); refine hK.out _ _ (HR2.out.c0) (fun hHeld => ?_); clear hK K; refine norm_ (a' := ?_) ?_ ?_; rotate_left
   ·show Act.put _ (some 5) _ = _
    simp only [Act.put, sA, sZ, sS, i64_w, i32_w]
    rfl
   exact norm_ (by first | (simp only [putAll, Act.put, sA, sZ, sS]; done) | (simp only [putAll, Act.put, sA, sZ, sS]; rfl)) (hJ5_13_21_28_35_42_49_51 _ _ ⟨HR2.out, HP2.out, HB2.out, HX2.out, below_size HB.out, Nat.ne_of_lt (blk_lt HR.out.at_)⟩)
 rintro gx wj ⟨hR_, hP_, hB_, hx_, hg_, hne_⟩; have HR := aM hR_; have HP := aM hP_; have HB := aM hB_; have HX := aM hx_; have HG := aM hg_; have HNE := aM hne_; clear hR_ hP_ hB_ hx_ hg_ hne_; have hHeld : wj.cell? ⟨gb, 0, none⟩ = some (.slice A0 l.length c0) := HR.out.c0; refine norm_ (a' := ?_) ?_ ?_; rotate_left
 ·simp only [putAll, Act.put, sA, sZ, sS]
  rfl
 refine last_ (i := 52) (N := none) (bzA 53 9007199254740991) rfl rfl (one_of HT_.out (by kernel_rfl)) (by decide) (fun K hK => ?_); refine storeRow_ (by rfl) rfl 50 (.tmp 5) (.tmp 63) rfl gx (cells50 (progX l p)) rfl rfl 50 zero50 HX.out (by exact size50) rfl (by simp [cells50, Value.oneCell']) ?_; refine hK.out _ _ ?_; clear hK K; refine done_ (done_of HT_.out (by kernel_rfl)) ?_; have HX2 := aM (setRow_heap _ gx zero50 (cells50 (progX l p)) 50 (0, 0) HX.out); have HR2 := aM (HR.out.row (cells50 (progX l p)) HNE.out); have HP2 := aM (Kd.R_step (w1 := World.setRow _ gx (cells50 (progX l p))) HP.out (fun k hk _ => setRow_other _ gx k _ hk)); have HB2 := aM (below_row HB.out HG.out (cells50 (progX l p))); clear HX HR HP HB gc gc0 hHeld; have HX := HX2; have HR := HR2; have HP := HP2; have HB := HB2; clear HX2 HR2 HP2 HB2; generalize World.setRow _ gx (cells50 (progX l p)) = wx at *

 obtain ⟨X, hX⟩ : ∃ X, progX l p = X := ⟨_, rfl⟩; rw [hX] at HX hX0; have HX0 := aM hX0; clear hX0; obtain ⟨x0, x1, x2, x3, x4, x5, x6⟩ := cells_at HX.out; have gc := HR.out.c0; have gp := HR.out.c3; have ge := HR.out.c4
 go_wp2
 go_quiet (fail)
 have hb := pw_below_drewN (Below.refl wx.heap.size wx) nq; have HR1 := aM (HR.out.below hb); have HP1 := aM (Kd.R_below HP.out hb); have HB1 := aM (below_step HB.out hb); have HX1 := aM (blk_below HX.out hb); clear HR HP HB HX hb x0 x1 x2 x3 x4 x5 x6 gc gp ge; have HR := HR1; have HP := HP1; have HB := HB1; have HX := HX1; clear HR1 HP1 HB1 HX1; obtain ⟨x0, x1, x2, x3, x4, x5, x6⟩ := cells_at HX.out; have gc := HR.out.c0; have gp := HR.out.c3; have ge := HR.out.c4; generalize wx.drewN nq = wy at *; obtain ⟨al, hal⟩ : ∃ al, (if X.f6 < 1 then (1 : Int) else X.f6) = al := ⟨_, rfl⟩
 go_wp2_with (first | (go_at_call 26; refine (has52_at gx X.f0 AP cP ps _ (Kd.R_reads' HP.out).2.2 (Kd.R_reads' HP.out).2.1 (by have := HNN.out.2.1; omega) x0).mono ?_; rintro e wn ⟨rfl, hb⟩; have HR1 := aM (HR.out.below hb); have HP1 := aM (Kd.R_below HP.out hb); have HB1 := aM (below_step HB.out hb); have HX1 := aM (blk_below HX.out hb); clear HR HP HB HX hb x0 x1 x2 x3 x4 x5 x6 gc gp ge; have HR := HR1; have HP := HP1; have HB := HB1; have HX := HX1; clear HR1 HP1 HB1 HX1; obtain ⟨x0, x1, x2, x3, x4, x5, x6⟩ := cells_at HX.out; have gc := HR.out.c0; have gp := HR.out.c3; have ge := HR.out.c4) | (go_at_call 53; refine (up_at X.f6 _).mono ?_; rintro e wm ⟨un, ue, rfl, HUE, hb⟩; have HR1 := aM (HR.out.below hb); have HP1 := aM (Kd.R_below HP.out hb); have HB1 := aM (below_step HB.out hb); have HX1 := aM (blk_below HX.out hb); clear HR HP HB HX hb x0 x1 x2 x3 x4 x5 x6 gc gp ge; have HR := HR1; have HP := HP1; have HB := HB1; have HX := HX1; clear HR1 HP1 HB1 HX1; obtain ⟨x0, x1, x2, x3, x4, x5, x6⟩ := cells_at HX.out; have gc := HR.out.c0; have gp := HR.out.c3; have ge := HR.out.c4))
 obtain ⟨TW, hTW⟩ : ∃ b, (ps.any fun x => x.f0 == X.f0) = b := ⟨_, rfl⟩; obtain ⟨LD, hLD⟩ : ∃ b, (X.f0 == 1) = b := ⟨_, rfl⟩; obtain ⟨TL, hTL⟩ : ∃ b, (X.f0 == 7) = b := ⟨_, rfl⟩; obtain ⟨v10, hv10, hne, heg⟩ := errNe ue; rw [hTW, hLD, hTL, hv10]; obtain ⟨OD, hOD⟩ : ∃ b, ue.isSome = b := ⟨_, rfl⟩; rw [hOD] at hne; obtain ⟨I2, hI2⟩ : ∃ b, isV X.f0 is2L = b := ⟨_, rfl⟩; obtain ⟨I3, hI3⟩ : ∃ b, isV X.f0 is3L = b := ⟨_, rfl⟩; obtain ⟨I4, hI4⟩ : ∃ b, isV X.f0 is4L = b := ⟨_, rfl⟩; obtain ⟨IN, hIN⟩ : ∃ b, liesB l.length X.f2 X.f4 = b := ⟨_, rfl⟩; obtain ⟨IM, hIM⟩ : ∃ b, liesB 140737488355328 X.f3 X.f5 = b := ⟨_, rfl⟩; have HI2 := aM hI2; have HI3 := aM hI3; have HI4 := aM hI4; have HIN := aM hIN; have HIM := aM hIM; have HTW := aM hTW; have HLD := aM hLD; have HTL := aM hTL; have HOD := aM hOD; have HAL := aM hal; have HXX := aM hX
 have hal0 : ¬ al = 0 := by rw [← hal]; split <;> omega
 clear hI2 hI3 hI4 hIN hIM hTW hLD hTL hOD hal hX hv10; obtain ⟨GT, hGT⟩ : ∃ b, decide (X.f5 < X.f4) = b := ⟨_, rfl⟩; obtain ⟨NZ, hNZ⟩ : ∃ b, (X.f6 != 0) = b := ⟨_, rfl⟩; obtain ⟨BIG, hBIG⟩ : ∃ b, decide (1048576 < X.f6) = b := ⟨_, rfl⟩; obtain ⟨M0, hM0⟩ : ∃ b, (X.f5 == 0) = b := ⟨_, rfl⟩; obtain ⟨AL4, hAL4⟩ : ∃ b, decide (X.f6 < 4096) = b := ⟨_, rfl⟩; obtain ⟨MD, hMD⟩ : ∃ b, (X.f2.tmod al != X.f3.tmod al) = b := ⟨_, rfl⟩; obtain ⟨LO, hLO⟩ : ∃ b, decide (Go.bits .andNot .u64 X.f3 4095 < nd) = b := ⟨_, rfl⟩; have hb := below_drew1 (Below.refl wm.heap.size wm); have HR1 := aM (HR.out.below hb); have HP1 := aM (Kd.R_below HP.out hb); have HB1 := aM (below_step HB.out hb); have HX1 := aM (blk_below HX.out hb); clear HR HP HB HX hb x0 x1 x2 x3 x4 x5 x6 gc gp ge; have HR := HR1; have HP := HP1; have HB := HB1; have HX := HX1; clear HR1 HP1 HB1 HX1; obtain ⟨x0, x1, x2, x3, x4, x5, x6⟩ := cells_at HX.out; have gc := HR.out.c0; have gp := HR.out.c3; have ge := HR.out.c4

 refine start_ (n := 110) (S := fun w' => w'.cell? ⟨gb, 0, none⟩ = some (.slice A0 l.length c0) ∧ w'.cell? ⟨gb, 4, none⟩ = some (.int .u64 nd) ∧ w'.cell? ⟨gx, 0, none⟩ = some (.int .u32 X.f0) ∧ w'.cell? ⟨gx, 2, none⟩ = some (.int .u64 X.f2) ∧ w'.cell? ⟨gx, 3, none⟩ = some (.int .u64 X.f3) ∧ w'.cell? ⟨gx, 4, none⟩ = some (.int .u64 X.f4) ∧ w'.cell? ⟨gx, 5, none⟩ = some (.int .u64 X.f5) ∧ w'.cell? ⟨gx, 6, none⟩ = some (.int .u64 X.f6)) (ds := []) (bzA 110 0) (by kernel_rfl) rfl (by kernel_rfl) ⟨gc, ge, x0, x2, x3, x4, x5, x6⟩ (fun hHeld => ?_); refine with_tabW hprog.tab6 hprog.bits6 (fun HT_ HW_ => ?_); refine pure_ (i := 0) (N := some 86) (v := ?_) (a' := ?_) (bzA 110 1) rfl rfl (any_of HT_.out (by kernel_rfl)) (fun _ _ _ h => h) (Or.inl ⟨by rfl, ?_⟩) ?_ ?_; rotate_left
 ·intro w'
  go_simp
  with_reducible rfl
 rotate_left
 ·simp only [Act.put, sA, sZ, sS, i64_w, i32_w]
  rfl
 refine pure_ (i := 1) (N := some 87) (v := ?_) (a' := ?_) (bzA 110 3) rfl rfl (any_of HT_.out (by kernel_rfl)) (fun _ _ _ h => h) (Or.inl ⟨by rfl, ?_⟩) ?_ ?_; rotate_left
 ·intro w'
  go_simp
  with_reducible rfl
 rotate_left
 ·simp only [Act.put, sA, sZ, sS, i64_w, i32_w]
  rfl
 refine pure_ (i := 2) (N := some 88) (v := ?_) (a' := ?_) (bzA 110 7) rfl rfl (any_of HT_.out (by kernel_rfl)) (fun _ _ _ h => h) (Or.inl ⟨by rfl, ?_⟩) ?_ ?_; rotate_left
 ·intro w'
  go_simp
  with_reducible rfl
 rotate_left
 ·simp only [Act.put, sA, sZ, sS, i64_w, i32_w]
  rfl
 refine pure_ (i := 9) (N := some 95) (v := ?_) (a' := ?_) (bzA 110 519) rfl rfl (any_of HT_.out (by kernel_rfl)) (fun _ _ _ h => h) (Or.inl ⟨by rfl, ?_⟩) ?_ ?_; rotate_left
 ·intro w'
  go_simp
  with_reducible rfl
 rotate_left
 ·simp only [Act.put, sA, sZ, sS, i64_w, i32_w]
  rfl
 refine pure_ (i := 10) (N := some 96) (v := ?_) (a' := ?_) (bzA 110 1543) rfl rfl (any_of HT_.out (by kernel_rfl)) (fun _ _ _ h => h) (Or.inl ⟨by rfl, ?_⟩) ?_ ?_; rotate_left
 ·intro w'
  go_simp
  with_reducible rfl
 rotate_left
 ·simp only [Act.put, sA, sZ, sS, i64_w, i32_w]
  rfl
 refine pure_ (i := 11) (N := some 97) (v := ?_) (a' := ?_) (bzA 110 3591) rfl rfl (any_of HT_.out (by kernel_rfl)) (fun _ _ _ h => h) (Or.inl ⟨by rfl, ?_⟩) ?_ ?_; rotate_left
 ·intro w'
  go_simp
  with_reducible rfl
 rotate_left
 ·simp only [Act.put, sA, sZ, sS, i64_w, i32_w]
  rfl
 refine take_ (i := 12) (N := some 98) (v := ?_) (a' := ?_) (bzA 110 7687) rfl rfl (take_ofW HT_.out HW_.out (by kernel_rfl)) (fun _ _ _ h => h) (Or.inl ⟨by rfl, ?_⟩) hHeld ?_ ?_; rotate_left
 ·rintro w' ⟨s0, s1, s2, s3, s4, s5, s6, s7⟩
  go_simp
  with_reducible rfl
 rotate_left
 ·simp only [Act.put, sA, sZ, sS, i64_w, i32_w]
  rfl
 refine pure_ (i := 13) (N := some 99) (v := ?_) (a' := ?_) (bzA 110 15879) rfl rfl (any_of HT_.out (by kernel_rfl)) (fun _ _ _ h => h) (Or.inl ⟨by rfl, ?_⟩) ?_ ?_; rotate_left
 ·intro w'
  go_simp
  with_reducible rfl
 rotate_left
 ·simp only [Act.put, sA, sZ, sS, i64_w, i32_w]
  rfl
 refine take_ (i := 14) (N := some 100) (v := ?_) (a' := ?_) (bzA 110 32263) rfl rfl (take_ofW HT_.out HW_.out (by kernel_rfl)) (fun _ _ _ h => h) (Or.inl ⟨by rfl, ?_⟩) hHeld ?_ ?_; rotate_left
 ·rintro w' ⟨s0, s1, s2, s3, s4, s5, s6, s7⟩
  go_simp
  with_reducible rfl
 rotate_left
 ·simp only [Act.put, sA, sZ, sS, i64_w, i32_w]
  rfl
 refine pure_ (i := 15) (N := some 101) (v := ?_) (a' := ?_) (bzA 110 65031) rfl rfl (any_of HT_.out (by kernel_rfl)) (fun _ _ _ h => h) (Or.inl ⟨by rfl, ?_⟩) ?_ ?_; rotate_left
 ·intro w'
  go_simp
  with_reducible rfl
 rotate_left
 ·simp only [Act.put, sA, sZ, sS, i64_w, i32_w]
  rfl
 refine take_ (i := 16) (N := some 102) (v := ?_) (a' := ?_) (bzA 110 130567) rfl rfl (take_ofW HT_.out HW_.out (by kernel_rfl)) (fun _ _ _ h => h) (Or.inl ⟨by rfl, ?_⟩) hHeld ?_ ?_; rotate_left
 ·rintro w' ⟨s0, s1, s2, s3, s4, s5, s6, s7⟩
  go_simp
  with_reducible rfl
 rotate_left
 ·simp only [Act.put, sA, sZ, sS, i64_w, i32_w]
  rfl
 refine pure_ (i := 26) (N := some 112) (v := ?_) (a' := ?_) (bzA 110 67239431) rfl rfl (any_of HT_.out (by kernel_rfl)) (fun _ _ _ h => h) (Or.inl ⟨by rfl, ?_⟩) ?_ ?_; rotate_left
 ·intro w'
  go_simp
  with_reducible rfl
 rotate_left
 ·simp only [Act.put, sA, sZ, sS, i64_w, i32_w]
  rfl
 refine take_ (i := 27) (N := some 113) (v := ?_) (a' := ?_) (bzA 110 201457159) rfl rfl (take_ofW HT_.out HW_.out (by kernel_rfl)) (fun _ _ _ h => h) (Or.inl ⟨by rfl, ?_⟩) hHeld ?_ ?_; rotate_left
 ·rintro w' ⟨s0, s1, s2, s3, s4, s5, s6, s7⟩
  go_simp
  with_reducible rfl
 rotate_left
 ·simp only [Act.put, sA, sZ, sS, i64_w, i32_w]
  rfl
 refine pure_ (i := 28) (N := some 114) (v := ?_) (a' := ?_) (bzA 110 469892615) rfl rfl (any_of HT_.out (by kernel_rfl)) (fun _ _ _ h => h) (Or.inl ⟨by rfl, ?_⟩) ?_ ?_; rotate_left
 ·intro w'
  go_simp
  with_reducible rfl
 rotate_left
 ·simp only [Act.put, sA, sZ, sS, i64_w, i32_w]
  rfl
 refine take_ (i := 29) (N := some 115) (v := ?_) (a' := ?_) (bzA 110 1006763527) rfl rfl (take_ofW HT_.out HW_.out (by kernel_rfl)) (fun _ _ _ h => h) (Or.inl ⟨by rfl, ?_⟩) hHeld ?_ ?_; rotate_left
 ·rintro w' ⟨s0, s1, s2, s3, s4, s5, s6, s7⟩
  go_simp
  with_reducible rfl
 rotate_left
 ·simp only [Act.put, sA, sZ, sS, i64_w, i32_w]
  rfl
 refine pure_ (i := 39) (N := some 125) (v := ?_) (a' := ?_) (bzA 110 550762577415) rfl rfl (any_of HT_.out (by kernel_rfl)) (fun _ _ _ h => h) (Or.inl ⟨by rfl, ?_⟩) ?_ ?_; rotate_left
 ·intro w'
  go_simp
  with_reducible rfl
 rotate_left
 ·simp only [Act.put, sA, sZ, sS, i64_w, i32_w]
  rfl
 refine pure_ (i := 51) (N := some 137) (v := ?_) (a' := ?_) (bzA 110 2252350576262663) rfl rfl (any_of HT_.out (by kernel_rfl)) (fun _ _ _ h => h) (Or.inl ⟨by rfl, ?_⟩) ?_ ?_; rotate_left
 ·intro w'
  go_simp
  with_reducible rfl
 rotate_left
 ·simp only [Act.put, sA, sZ, sS, i64_w, i32_w]
  rfl
 refine pure_ (i := 70) (N := some 156) (v := ?_) (a' := ?_) (bzA 110 1180593873067987566087) rfl rfl (any_of HT_.out (by kernel_rfl)) (fun _ _ _ h => h) (Or.inl ⟨by rfl, ?_⟩) ?_ ?_; rotate_left
 ·intro w'
  go_simp
  with_reducible rfl
 rotate_left
 ·simp only [Act.put, sA, sZ, sS, i64_w, i32_w]
  rfl
 refine pure_ (i := 77) (N := some 163) (v := ?_) (a' := ?_) (bzA 110 152296321324896634404359) rfl rfl (any_of HT_.out (by kernel_rfl)) (fun _ _ _ h => h) (Or.inl ⟨by rfl, ?_⟩) ?_ ?_; rotate_left
 ·intro w'
  go_simp
  with_reducible rfl
 rotate_left
 ·simp only [Act.put, sA, sZ, sS, i64_w, i32_w]
  rfl
 refine pure_ (i := 84) (N := some 170) (v := ?_) (a' := ?_) (bzA 110 19495109435158963429703175) rfl rfl (any_of HT_.out (by kernel_rfl)) (fun _ _ _ h => h) (Or.inl ⟨by rfl, ?_⟩) ?_ ?_; rotate_left
 ·intro w'
  go_simp
  with_reducible rfl
 rotate_left
 ·simp only [Act.put, sA, sZ, sS, i64_w, i32_w]
  rfl
 refine join_ (σ := Value × Value × Value × Value) 84 (bzA 110 19495109435158963429703679) (fun s => [(89, s.1), (90, s.2.1), (91, s.2.2.1), (92, s.2.2.2), (93, (.bool (TW && I2))), (94, (.agg #[.bool (TW && I2), .int .i64 5, .int .u64 0]))]) (fun _ w' => Rdr w' gb A0 c0 l ty en (.slice AP ps.length cP) nd ∧ Kd.R k50 50 w' w0.heap.size (fun k => k ≠ gx) (.slice AP ps.length cP) ps ∧ Below w0.heap.size w0 w' ∧ w'.heap[gx]? = some (.cells (cells50 X) 50 (0, 0))) ?_ ?_; rotate_left
 ·intro hCont_; have hCont := aM hCont_; clear hCont_
  cases TW
  ·skip
   refine pure_ (i := 3) (N := some 89) (v := undef) (a' := ?_) (bzA 110 19495109435158963429703183) rfl rfl (any_of HT_.out (by kernel_rfl)) (fun _ _ _ h => h) (Or.inr ⟨by rfl, rfl⟩) ?_ ?_; rotate_left
   ·simp only [Act.put, sA, sZ, sS, i64_w, i32_w]
    rfl
   refine pure_ (i := 4) (N := some 90) (v := undef) (a' := ?_) (bzA 110 19495109435158963429703199) rfl rfl (any_of HT_.out (by kernel_rfl)) (fun _ _ _ h => h) (Or.inr ⟨by rfl, rfl⟩) ?_ ?_; rotate_left
   ·simp only [Act.put, sA, sZ, sS, i64_w, i32_w]
    rfl
   refine pure_ (i := 5) (N := some 91) (v := undef) (a' := ?_) (bzA 110 19495109435158963429703231) rfl rfl (any_of HT_.out (by kernel_rfl)) (fun _ _ _ h => h) (Or.inr ⟨by rfl, rfl⟩) ?_ ?_; rotate_left
   ·simp only [Act.put, sA, sZ, sS, i64_w, i32_w]
    rfl
   refine pure_ (i := 6) (N := some 92) (v := undef) (a' := ?_) (bzA 110 19495109435158963429703295) rfl rfl (any_of HT_.out (by kernel_rfl)) (fun _ _ _ h => h) (Or.inr ⟨by rfl, rfl⟩) ?_ ?_; rotate_left
   ·simp only [Act.put, sA, sZ, sS, i64_w, i32_w]
    rfl
   refine pure_ (i := 7) (N := some 93) (v := ?_) (a' := ?_) (bzA 110 19495109435158963429703423) rfl rfl (any_of HT_.out (by kernel_rfl)) (fun _ _ _ h => h) (Or.inl ⟨by rfl, ?_⟩) ?_ ?_; rotate_left
   ·intro w'
    go_simp
    with_reducible rfl
   rotate_left
   ·simp only [Act.put, sA, sZ, sS, i64_w, i32_w]
    rfl
   refine pure_ (i := 8) (N := some 94) (v := ?_) (a' := ?_) (bzA 110 19495109435158963429703679) rfl rfl (any_of HT_.out (by kernel_rfl)) (fun _ _ _ h => h) (Or.inl ⟨by rfl, ?_⟩) ?_ ?_; rotate_left
   ·intro w'
    go_simp
    with_reducible rfl
   rotate_left
   ·simp only [Act.put, sA, sZ, sS, i64_w, i32_w]
    rfl
   exact norm_ (by first | (simp only [putAll, Act.put, sA, sZ, sS]; done) | (simp only [putAll, Act.put, sA, sZ, sS]; rfl)) (hCont.out (_, _, _, _) _ ⟨HR.out, HP.out, HB.out, HX.out⟩)
  ·skip
   refine pure_ (i := 3) (N := some 89) (v := ?_) (a' := ?_) (bzA 110 19495109435158963429703183) rfl rfl (any_of HT_.out (by kernel_rfl)) (fun _ _ _ h => h) (Or.inl ⟨by rfl, ?_⟩) ?_ ?_; rotate_left
   ·intro w'
    go_simp
    with_reducible rfl
   rotate_left
   ·simp only [Act.put, sA, sZ, sS, i64_w, i32_w]
    rfl
   refine take_ (i := 4) (N := some 90) (v := ?_) (a' := ?_) (bzA 110 19495109435158963429703199) rfl rfl (take_ofW HT_.out HW_.out (by kernel_rfl)) (fun _ _ _ h => h) (Or.inl ⟨by rfl, ?_⟩) hHeld ?_ ?_; rotate_left
   ·rintro w' ⟨s0, s1, s2, s3, s4, s5, s6, s7⟩
    go_simp
    with_reducible rfl
   rotate_left
   ·simp only [Act.put, sA, sZ, sS, i64_w, i32_w]
    rfl
   refine one_ (i := 5) (N := some 91) (bzA 110 19495109435158963429703231) rfl rfl (one_of HT_.out (by kernel_rfl)) (by decide) (fun K hK => ?_); refine Kd.R_lit_step (Kd.int .u32) (w0 := _) _ 48 (by rfl) (N := 91) rfl (xs := is2L) (inner := [.int .u32 2, .int .u32 3, .int .u32 7, .int .u32 1685382482, .int .u32 1685382481]) (ok := fun _ => True) (okp := fun _ => True) ?hr ?hp (fun _ hk => hk) trivial (Below.refl _ _) (Nat.le_refl _) (by simp [is2L, is3L, is4L]) ?_
   case hr => first | (go_simp; done) | (go_simp; rfl)
   case hp => exact (Reps.one (show Kd.M (Kd.int .u32) _ _ _ 2 [.int .u32 2] from rfl) (Reps.one (show Kd.M (Kd.int .u32) _ _ _ 3 [.int .u32 3] from rfl) (Reps.one (show Kd.M (Kd.int .u32) _ _ _ 7 [.int .u32 7] from rfl) (Reps.one (show Kd.M (Kd.int .u32) _ _ _ 1685382482 [.int .u32 1685382482] from rfl) (Reps.one (show Kd.M (Kd.int .u32) _ _ _ 1685382481 [.int .u32 1685382481] from rfl) (Reps.none _ _))))))
   intro v1 w3 ho hb hg_ hnew_; clear hg_ hnew_; have HI := aM (Kd.R_reads ho); clear ho; have HR2 := aM (HR.out.below hb); have HP2 := aM (Kd.R_below HP.out hb); have HB2 := aM (below_step HB.out hb); have HX2 := aM (blk_below HX.out hb); clear HR HP HB HX hb; have HR := HR2; have HP := HP2; have HB := HB2; have HX := HX2; clear HR2 HP2 HB2 HX2; obtain ⟨Ai, ci, rfl, hi1, hi2⟩ := HI.out; clear HI; have HI1 := aM hi1; have HI2_ := aM hi2; clear hi1 hi2; refine hK.out _ _ ⟨HR.out.c0, HR.out.c4, (cells_at HX.out).1, (cells_at HX.out).2.2.1, (cells_at HX.out).2.2.2.1, (cells_at HX.out).2.2.2.2.1, (cells_at HX.out).2.2.2.2.2.1, (cells_at HX.out).2.2.2.2.2.2⟩ (fun hHeld => ?_); clear hK K; refine norm_ (a' := ?_) ?_ ?_; rotate_left
   ·show Act.put _ (some 91) _ = _
    simp only [Act.put, sA, sZ, sS, i64_w, i32_w]
    rfl
   refine one_ (i := 6) (N := some 92) (bzA 110 19495109435158963429703295) rfl rfl (one_of HT_.out (by kernel_rfl)) (by decide) (fun K hK => ?_); refine goes_ Tryd.func55 (by kernel_rfl) rfl #[.int .u32 X.f0, .slice Ai is2L.length ci] (by rfl) rfl rfl (by simp only [List.map_toArray, List.map_cons, List.map_nil]; rfl) ?_
   with_reducible refine (is_at2 X.f0 is2L I2 HI2.out Ai ci _ HI2_.out HI1.out (by decide)).mono ?_
   rintro e w5 ⟨rfl, hb⟩; refine ⟨_, rfl, ?_⟩; clear HI1 HI2_; have HR2 := aM (HR.out.below hb); have HP2 := aM (Kd.R_below HP.out hb); have HB2 := aM (below_step HB.out hb); have HX2 := aM (blk_below HX.out hb); clear HR HP HB HX hb; have HR := HR2; have HP := HP2; have HB := HB2; have HX := HX2; clear HR2 HP2 HB2 HX2; refine hK.out _ _ ⟨HR.out.c0, HR.out.c4, (cells_at HX.out).1, (cells_at HX.out).2.2.1, (cells_at HX.out).2.2.2.1, (cells_at HX.out).2.2.2.2.1, (cells_at HX.out).2.2.2.2.2.1, (cells_at HX.out).2.2.2.2.2.2⟩ (fun hHeld => ?_); clear hK K; refine norm_ (a' := ?_) ?_ ?_; rotate_left
   ·show Act.put _ (some 92) _ = _
    simp only [Act.put, sA, sZ, sS, i64_w, i32_w]
    rfl
   refine pure_ (i := 7) (N := some 93) (v := ?_) (a' := ?_) (bzA 110 19495109435158963429703423) rfl rfl (any_of HT_.out (by kernel_rfl)) (fun _ _ _ h => h) (Or.inl ⟨by rfl, ?_⟩) ?_ ?_; rotate_left
   ·intro w'
    go_simp
    with_reducible rfl
   rotate_left
   ·simp only [Act.put, sA, sZ, sS, i64_w, i32_w]
    rfl
   refine pure_ (i := 8) (N := some 94) (v := ?_) (a' := ?_) (bzA 110 19495109435158963429703679) rfl rfl (any_of HT_.out (by kernel_rfl)) (fun _ _ _ h => h) (Or.inl ⟨by rfl, ?_⟩) ?_ ?_; rotate_left
   ·intro w'
    go_simp
    with_reducible rfl
   rotate_left
   ·simp only [Act.put, sA, sZ, sS, i64_w, i32_w]
    rfl
   exact norm_ (by first | (simp only [putAll, Act.put, sA, sZ, sS]; done) | (simp only [putAll, Act.put, sA, sZ, sS]; rfl)) (hCont.out (_, _, _, _) _ ⟨HR.out, HP.out, HB.out, HX.out⟩)
 rintro ⟨u89, u90, u91, u92⟩ wj hF_; have HR2 := aM hF_.1; have HP2 := aM hF_.2.1; have HB2 := aM hF_.2.2.1; have HX2 := aM hF_.2.2.2; clear HR HP HB HX hHeld hF_; have HR := HR2; have HP := HP2; have HB := HB2; have HX := HX2; clear HR2 HP2 HB2 HX2; have hHeld : wj.cell? ⟨gb, 0, none⟩ = some (.slice A0 l.length c0) ∧ wj.cell? ⟨gb, 4, none⟩ = some (.int .u64 nd) ∧ wj.cell? ⟨gx, 0, none⟩ = some (.int .u32 X.f0) ∧ wj.cell? ⟨gx, 2, none⟩ = some (.int .u64 X.f2) ∧ wj.cell? ⟨gx, 3, none⟩ = some (.int .u64 X.f3) ∧ wj.cell? ⟨gx, 4, none⟩ = some (.int .u64 X.f4) ∧ wj.cell? ⟨gx, 5, none⟩ = some (.int .u64 X.f5) ∧ wj.cell? ⟨gx, 6, none⟩ = some (.int .u64 X.f6) := ⟨HR.out.c0, HR.out.c4, (cells_at HX.out).1, (cells_at HX.out).2.2.1, (cells_at HX.out).2.2.2.1, (cells_at HX.out).2.2.2.2.1, (cells_at HX.out).2.2.2.2.2.1, (cells_at HX.out).2.2.2.2.2.2⟩; refine norm_ (a' := ?_) ?_ ?_; rotate_left
 ·simp only [putAll, Act.put, sA, sZ, sS]
  rfl
 refine one_ (i := 17) (N := some 103) (bzA 110 19495109435158963429834751) rfl rfl (one_of HT_.out (by kernel_rfl)) (by decide) (fun K hK => ?_); refine goes_ Tryd.func42 (by kernel_rfl) rfl #[.agg #[.slice A0 l.length c0], .int .u64 X.f2, .int .u64 X.f4] (by rfl) rfl rfl (by simp only [List.map_toArray, List.map_cons, List.map_nil]; rfl) ?_
 with_reducible refine (fin_at2 A0 c0 l X.f2 X.f4 IN HIN.out _ (Kd.C_below HCC.out HB.out) HNN.out.2.2.2.2 HNN.out.1 HX0.out.1).mono ?_
 rintro e w6 ⟨rfl, hb⟩; refine ⟨_, rfl, ?_⟩; have HR2 := aM (HR.out.below hb); have HP2 := aM (Kd.R_below HP.out hb); have HB2 := aM (below_step HB.out hb); have HX2 := aM (blk_below HX.out hb); clear HR HP HB HX hb; have HR := HR2; have HP := HP2; have HB := HB2; have HX := HX2; clear HR2 HP2 HB2 HX2; refine hK.out _ _ ⟨HR.out.c0, HR.out.c4, (cells_at HX.out).1, (cells_at HX.out).2.2.1, (cells_at HX.out).2.2.2.1, (cells_at HX.out).2.2.2.2.1, (cells_at HX.out).2.2.2.2.2.1, (cells_at HX.out).2.2.2.2.2.2⟩ (fun hHeld => ?_); clear hK K; refine norm_ (a' := ?_) ?_ ?_; rotate_left
 ·show Act.put _ (some 103) _ = _
  simp only [Act.put, sA, sZ, sS, i64_w, i32_w]
  rfl
 refine pure_ (i := 18) (N := some 104) (v := ?_) (a' := ?_) (bzA 110 19495109435158963430096895) rfl rfl (any_of HT_.out (by kernel_rfl)) (fun _ _ _ h => h) (Or.inl ⟨by rfl, ?_⟩) ?_ ?_; rotate_left
 ·intro w'
  go_simp
  with_reducible rfl
 rotate_left
 ·simp only [Act.put, sA, sZ, sS, i64_w, i32_w]
  rfl
 refine pure_ (i := 19) (N := some 105) (v := ?_) (a' := ?_) (bzA 110 19495109435158963430621183) rfl rfl (any_of HT_.out (by kernel_rfl)) (fun _ _ _ h => h) (Or.inl ⟨by rfl, ?_⟩) ?_ ?_; rotate_left
 ·intro w'
  go_simp
  with_reducible rfl
 rotate_left
 ·simp only [Act.put, sA, sZ, sS, i64_w, i32_w]
  rfl
 refine join_ (σ := Value × Value × Value × Value) 75 (bzA 110 19495109435158963496681471) (fun s => [(106, s.1), (107, s.2.1), (108, s.2.2.1), (109, s.2.2.2), (110, (.bool (!IN && I3))), (111, (.agg #[.bool (!IN && I3), .int .i64 4, .int .u64 8]))]) (fun _ w' => Rdr w' gb A0 c0 l ty en (.slice AP ps.length cP) nd ∧ Kd.R k50 50 w' w0.heap.size (fun k => k ≠ gx) (.slice AP ps.length cP) ps ∧ Below w0.heap.size w0 w' ∧ w'.heap[gx]? = some (.cells (cells50 X) 50 (0, 0))) ?_ ?_; rotate_left
 ·intro hCont_; have hCont := aM hCont_; clear hCont_
  cases IN
  ·skip
   refine pure_ (i := 20) (N := some 106) (v := ?_) (a' := ?_) (bzA 110 19495109435158963431669759) rfl rfl (any_of HT_.out (by kernel_rfl)) (fun _ _ _ h => h) (Or.inl ⟨by rfl, ?_⟩) ?_ ?_; rotate_left
   ·intro w'
    go_simp
    with_reducible rfl
   rotate_left
   ·simp only [Act.put, sA, sZ, sS, i64_w, i32_w]
    rfl
   refine take_ (i := 21) (N := some 107) (v := ?_) (a' := ?_) (bzA 110 19495109435158963433766911) rfl rfl (take_ofW HT_.out HW_.out (by kernel_rfl)) (fun _ _ _ h => h) (Or.inl ⟨by rfl, ?_⟩) hHeld ?_ ?_; rotate_left
   ·rintro w' ⟨s0, s1, s2, s3, s4, s5, s6, s7⟩
    go_simp
    with_reducible rfl
   rotate_left
   ·simp only [Act.put, sA, sZ, sS, i64_w, i32_w]
    rfl
   refine one_ (i := 22) (N := some 108) (bzA 110 19495109435158963437961215) rfl rfl (one_of HT_.out (by kernel_rfl)) (by decide) (fun K hK => ?_); refine Kd.R_lit_step (Kd.int .u32) (w0 := _) _ 48 (by rfl) (N := 108) rfl (xs := is3L) (inner := [.int .u32 1, .int .u32 2, .int .u32 3, .int .u32 4, .int .u32 7]) (ok := fun _ => True) (okp := fun _ => True) ?hr ?hp (fun _ hk => hk) trivial (Below.refl _ _) (Nat.le_refl _) (by simp [is2L, is3L, is4L]) ?_
   case hr => first | (go_simp; done) | (go_simp; rfl)
   case hp => exact (Reps.one (show Kd.M (Kd.int .u32) _ _ _ 1 [.int .u32 1] from rfl) (Reps.one (show Kd.M (Kd.int .u32) _ _ _ 2 [.int .u32 2] from rfl) (Reps.one (show Kd.M (Kd.int .u32) _ _ _ 3 [.int .u32 3] from rfl) (Reps.one (show Kd.M (Kd.int .u32) _ _ _ 4 [.int .u32 4] from rfl) (Reps.one (show Kd.M (Kd.int .u32) _ _ _ 7 [.int .u32 7] from rfl) (Reps.none _ _))))))
   intro v1 w3 ho hb hg_ hnew_; clear hg_ hnew_; have HI := aM (Kd.R_reads ho); clear ho; have HR2 := aM (HR.out.below hb); have HP2 := aM (Kd.R_below HP.out hb); have HB2 := aM (below_step HB.out hb); have HX2 := aM (blk_below HX.out hb); clear HR HP HB HX hb; have HR := HR2; have HP := HP2; have HB := HB2; have HX := HX2; clear HR2 HP2 HB2 HX2; obtain ⟨Ai, ci, rfl, hi1, hi2⟩ := HI.out; clear HI; have HI1 := aM hi1; have HI2_ := aM hi2; clear hi1 hi2; refine hK.out _ _ ⟨HR.out.c0, HR.out.c4, (cells_at HX.out).1, (cells_at HX.out).2.2.1, (cells_at HX.out).2.2.2.1, (cells_at HX.out).2.2.2.2.1, (cells_at HX.out).2.2.2.2.2.1, (cells_at HX.out).2.2.2.2.2.2⟩ (fun hHeld => ?_); clear hK K; refine norm_ (a' := ?_) ?_ ?_; rotate_left
   ·show Act.put _ (some 108) _ = _
    simp only [Act.put, sA, sZ, sS, i64_w, i32_w]
    rfl
   refine one_ (i := 23) (N := some 109) (bzA 110 19495109435158963446349823) rfl rfl (one_of HT_.out (by kernel_rfl)) (by decide) (fun K hK => ?_); refine goes_ Tryd.func55 (by kernel_rfl) rfl #[.int .u32 X.f0, .slice Ai is3L.length ci] (by rfl) rfl rfl (by simp only [List.map_toArray, List.map_cons, List.map_nil]; rfl) ?_
   with_reducible refine (is_at2 X.f0 is3L I3 HI3.out Ai ci _ HI2_.out HI1.out (by decide)).mono ?_
   rintro e w5 ⟨rfl, hb⟩; refine ⟨_, rfl, ?_⟩; clear HI1 HI2_; have HR2 := aM (HR.out.below hb); have HP2 := aM (Kd.R_below HP.out hb); have HB2 := aM (below_step HB.out hb); have HX2 := aM (blk_below HX.out hb); clear HR HP HB HX hb; have HR := HR2; have HP := HP2; have HB := HB2; have HX := HX2; clear HR2 HP2 HB2 HX2; refine hK.out _ _ ⟨HR.out.c0, HR.out.c4, (cells_at HX.out).1, (cells_at HX.out).2.2.1, (cells_at HX.out).2.2.2.1, (cells_at HX.out).2.2.2.2.1, (cells_at HX.out).2.2.2.2.2.1, (cells_at HX.out).2.2.2.2.2.2⟩ (fun hHeld => ?_); clear hK K; refine norm_ (a' := ?_) ?_ ?_; rotate_left
   ·show Act.put _ (some 109) _ = _
    simp only [Act.put, sA, sZ, sS, i64_w, i32_w]
    rfl
   refine pure_ (i := 24) (N := some 110) (v := ?_) (a' := ?_) (bzA 110 19495109435158963463127039) rfl rfl (any_of HT_.out (by kernel_rfl)) (fun _ _ _ h => h) (Or.inl ⟨by rfl, ?_⟩) ?_ ?_; rotate_left
   ·intro w'
    go_simp
    with_reducible rfl
   rotate_left
   ·simp only [Act.put, sA, sZ, sS, i64_w, i32_w]
    rfl
   refine pure_ (i := 25) (N := some 111) (v := ?_) (a' := ?_) (bzA 110 19495109435158963496681471) rfl rfl (any_of HT_.out (by kernel_rfl)) (fun _ _ _ h => h) (Or.inl ⟨by rfl, ?_⟩) ?_ ?_; rotate_left
   ·intro w'
    go_simp
    with_reducible rfl
   rotate_left
   ·simp only [Act.put, sA, sZ, sS, i64_w, i32_w]
    rfl
   exact norm_ (by first | (simp only [putAll, Act.put, sA, sZ, sS]; done) | (simp only [putAll, Act.put, sA, sZ, sS]; rfl)) (hCont.out (_, _, _, _) _ ⟨HR.out, HP.out, HB.out, HX.out⟩)
  ·skip
   refine pure_ (i := 20) (N := some 106) (v := undef) (a' := ?_) (bzA 110 19495109435158963431669759) rfl rfl (any_of HT_.out (by kernel_rfl)) (fun _ _ _ h => h) (Or.inr ⟨by rfl, rfl⟩) ?_ ?_; rotate_left
   ·simp only [Act.put, sA, sZ, sS, i64_w, i32_w]
    rfl
   refine pure_ (i := 21) (N := some 107) (v := undef) (a' := ?_) (bzA 110 19495109435158963433766911) rfl rfl (any_of HT_.out (by kernel_rfl)) (fun _ _ _ h => h) (Or.inr ⟨by rfl, rfl⟩) ?_ ?_; rotate_left
   ·simp only [Act.put, sA, sZ, sS, i64_w, i32_w]
    rfl
   refine pure_ (i := 22) (N := some 108) (v := undef) (a' := ?_) (bzA 110 19495109435158963437961215) rfl rfl (any_of HT_.out (by kernel_rfl)) (fun _ _ _ h => h) (Or.inr ⟨by rfl, rfl⟩) ?_ ?_; rotate_left
   ·simp only [Act.put, sA, sZ, sS, i64_w, i32_w]
    rfl
   refine pure_ (i := 23) (N := some 109) (v := undef) (a' := ?_) (bzA 110 19495109435158963446349823) rfl rfl (any_of HT_.out (by kernel_rfl)) (fun _ _ _ h => h) (Or.inr ⟨by rfl, rfl⟩) ?_ ?_; rotate_left
   ·simp only [Act.put, sA, sZ, sS, i64_w, i32_w]
    rfl
   refine pure_ (i := 24) (N := some 110) (v := ?_) (a' := ?_) (bzA 110 19495109435158963463127039) rfl rfl (any_of HT_.out (by kernel_rfl)) (fun _ _ _ h => h) (Or.inl ⟨by rfl, ?_⟩) ?_ ?_; rotate_left
   ·intro w'
    go_simp
    with_reducible rfl
   rotate_left
   ·simp only [Act.put, sA, sZ, sS, i64_w, i32_w]
    rfl
   refine pure_ (i := 25) (N := some 111) (v := ?_) (a' := ?_) (bzA 110 19495109435158963496681471) rfl rfl (any_of HT_.out (by kernel_rfl)) (fun _ _ _ h => h) (Or.inl ⟨by rfl, ?_⟩) ?_ ?_; rotate_left
   ·intro w'
    go_simp
    with_reducible rfl
   rotate_left
   ·simp only [Act.put, sA, sZ, sS, i64_w, i32_w]
    rfl
   exact norm_ (by first | (simp only [putAll, Act.put, sA, sZ, sS]; done) | (simp only [putAll, Act.put, sA, sZ, sS]; rfl)) (hCont.out (_, _, _, _) _ ⟨HR.out, HP.out, HB.out, HX.out⟩)
 rintro ⟨u106, u107, u108, u109⟩ wj hF_; have HR2 := aM hF_.1; have HP2 := aM hF_.2.1; have HB2 := aM hF_.2.2.1; have HX2 := aM hF_.2.2.2; clear HR HP HB HX hHeld hF_; have HR := HR2; have HP := HP2; have HB := HB2; have HX := HX2; clear HR2 HP2 HB2 HX2; have hHeld : wj.cell? ⟨gb, 0, none⟩ = some (.slice A0 l.length c0) ∧ wj.cell? ⟨gb, 4, none⟩ = some (.int .u64 nd) ∧ wj.cell? ⟨gx, 0, none⟩ = some (.int .u32 X.f0) ∧ wj.cell? ⟨gx, 2, none⟩ = some (.int .u64 X.f2) ∧ wj.cell? ⟨gx, 3, none⟩ = some (.int .u64 X.f3) ∧ wj.cell? ⟨gx, 4, none⟩ = some (.int .u64 X.f4) ∧ wj.cell? ⟨gx, 5, none⟩ = some (.int .u64 X.f5) ∧ wj.cell? ⟨gx, 6, none⟩ = some (.int .u64 X.f6) := ⟨HR.out.c0, HR.out.c4, (cells_at HX.out).1, (cells_at HX.out).2.2.1, (cells_at HX.out).2.2.2.1, (cells_at HX.out).2.2.2.2.1, (cells_at HX.out).2.2.2.2.2.1, (cells_at HX.out).2.2.2.2.2.2⟩; refine norm_ (a' := ?_) ?_ ?_; rotate_left
 ·simp only [putAll, Act.put, sA, sZ, sS]
  rfl
 refine one_ (i := 30) (N := some 116) (bzA 110 19495109435158964570423295) rfl rfl (one_of HT_.out (by kernel_rfl)) (by decide) (fun K hK => ?_); refine goes_ Tryd.func56 (by kernel_rfl) rfl #[.int .u64 140737488355328, .int .u64 X.f3, .int .u64 X.f5] (by rfl) rfl rfl (by simp only [List.map_toArray, List.map_cons, List.map_nil]; rfl) ?_
 with_reducible refine (sin_at2 X.f3 X.f5 IM HIM.out _ HX0.out.2).mono ?_
 rintro e w6 ⟨rfl, hb⟩; refine ⟨_, rfl, ?_⟩; have HR2 := aM (HR.out.below hb); have HP2 := aM (Kd.R_below HP.out hb); have HB2 := aM (below_step HB.out hb); have HX2 := aM (blk_below HX.out hb); clear HR HP HB HX hb; have HR := HR2; have HP := HP2; have HB := HB2; have HX := HX2; clear HR2 HP2 HB2 HX2; refine hK.out _ _ ⟨HR.out.c0, HR.out.c4, (cells_at HX.out).1, (cells_at HX.out).2.2.1, (cells_at HX.out).2.2.2.1, (cells_at HX.out).2.2.2.2.1, (cells_at HX.out).2.2.2.2.2.1, (cells_at HX.out).2.2.2.2.2.2⟩ (fun hHeld => ?_); clear hK K; refine norm_ (a' := ?_) ?_ ?_; rotate_left
 ·show Act.put _ (some 116) _ = _
  simp only [Act.put, sA, sZ, sS, i64_w, i32_w]
  rfl
 refine pure_ (i := 31) (N := some 117) (v := ?_) (a' := ?_) (bzA 110 19495109435158966717906943) rfl rfl (any_of HT_.out (by kernel_rfl)) (fun _ _ _ h => h) (Or.inl ⟨by rfl, ?_⟩) ?_ ?_; rotate_left
 ·intro w'
  go_simp
  with_reducible rfl
 rotate_left
 ·simp only [Act.put, sA, sZ, sS, i64_w, i32_w]
  rfl
 refine pure_ (i := 32) (N := some 118) (v := ?_) (a' := ?_) (bzA 110 19495109435158971012874239) rfl rfl (any_of HT_.out (by kernel_rfl)) (fun _ _ _ h => h) (Or.inl ⟨by rfl, ?_⟩) ?_ ?_; rotate_left
 ·intro w'
  go_simp
  with_reducible rfl
 rotate_left
 ·simp only [Act.put, sA, sZ, sS, i64_w, i32_w]
  rfl
 refine join_ (σ := Value × Value × Value × Value) 66 (bzA 110 19495109435159512178753535) (fun s => [(119, s.1), (120, s.2.1), (121, s.2.2.1), (122, s.2.2.2), (123, (.bool (!IM && I4))), (124, (.agg #[.bool (!IM && I4), .int .i64 4, .int .u64 16]))]) (fun _ w' => Rdr w' gb A0 c0 l ty en (.slice AP ps.length cP) nd ∧ Kd.R k50 50 w' w0.heap.size (fun k => k ≠ gx) (.slice AP ps.length cP) ps ∧ Below w0.heap.size w0 w' ∧ w'.heap[gx]? = some (.cells (cells50 X) 50 (0, 0))) ?_ ?_; rotate_left
 ·intro hCont_; have hCont := aM hCont_; clear hCont_
  cases IM
  ·skip
   refine pure_ (i := 33) (N := some 119) (v := ?_) (a' := ?_) (bzA 110 19495109435158979602808831) rfl rfl (any_of HT_.out (by kernel_rfl)) (fun _ _ _ h => h) (Or.inl ⟨by rfl, ?_⟩) ?_ ?_; rotate_left
   ·intro w'
    go_simp
    with_reducible rfl
   rotate_left
   ·simp only [Act.put, sA, sZ, sS, i64_w, i32_w]
    rfl
   refine take_ (i := 34) (N := some 120) (v := ?_) (a' := ?_) (bzA 110 19495109435158996782678015) rfl rfl (take_ofW HT_.out HW_.out (by kernel_rfl)) (fun _ _ _ h => h) (Or.inl ⟨by rfl, ?_⟩) hHeld ?_ ?_; rotate_left
   ·rintro w' ⟨s0, s1, s2, s3, s4, s5, s6, s7⟩
    go_simp
    with_reducible rfl
   rotate_left
   ·simp only [Act.put, sA, sZ, sS, i64_w, i32_w]
    rfl
   refine one_ (i := 35) (N := some 121) (bzA 110 19495109435159031142416383) rfl rfl (one_of HT_.out (by kernel_rfl)) (by decide) (fun K hK => ?_); refine Kd.R_lit_step (Kd.int .u32) (w0 := _) _ 48 (by rfl) (N := 121) rfl (xs := is4L) (inner := [.int .u32 1, .int .u32 2, .int .u32 7, .int .u32 1685382482]) (ok := fun _ => True) (okp := fun _ => True) ?hr ?hp (fun _ hk => hk) trivial (Below.refl _ _) (Nat.le_refl _) (by simp [is2L, is3L, is4L]) ?_
   case hr => first | (go_simp; done) | (go_simp; rfl)
   case hp => exact (Reps.one (show Kd.M (Kd.int .u32) _ _ _ 1 [.int .u32 1] from rfl) (Reps.one (show Kd.M (Kd.int .u32) _ _ _ 2 [.int .u32 2] from rfl) (Reps.one (show Kd.M (Kd.int .u32) _ _ _ 7 [.int .u32 7] from rfl) (Reps.one (show Kd.M (Kd.int .u32) _ _ _ 1685382482 [.int .u32 1685382482] from rfl) (Reps.none _ _)))))
   intro v1 w3 ho hb hg_ hnew_; clear hg_ hnew_; have HI := aM (Kd.R_reads ho); clear ho; have HR2 := aM (HR.out.below hb); have HP2 := aM (Kd.R_below HP.out hb); have HB2 := aM (below_step HB.out hb); have HX2 := aM (blk_below HX.out hb); clear HR HP HB HX hb; have HR := HR2; have HP := HP2; have HB := HB2; have HX := HX2; clear HR2 HP2 HB2 HX2; obtain ⟨Ai, ci, rfl, hi1, hi2⟩ := HI.out; clear HI; have HI1 := aM hi1; have HI2_ := aM hi2; clear hi1 hi2; refine hK.out _ _ ⟨HR.out.c0, HR.out.c4, (cells_at HX.out).1, (cells_at HX.out).2.2.1, (cells_at HX.out).2.2.2.1, (cells_at HX.out).2.2.2.2.1, (cells_at HX.out).2.2.2.2.2.1, (cells_at HX.out).2.2.2.2.2.2⟩ (fun hHeld => ?_); clear hK K; refine norm_ (a' := ?_) ?_ ?_; rotate_left
   ·show Act.put _ (some 121) _ = _
    simp only [Act.put, sA, sZ, sS, i64_w, i32_w]
    rfl
   refine one_ (i := 36) (N := some 122) (bzA 110 19495109435159099861893119) rfl rfl (one_of HT_.out (by kernel_rfl)) (by decide) (fun K hK => ?_); refine goes_ Tryd.func55 (by kernel_rfl) rfl #[.int .u32 X.f0, .slice Ai is4L.length ci] (by rfl) rfl rfl (by simp only [List.map_toArray, List.map_cons, List.map_nil]; rfl) ?_
   with_reducible refine (is_at2 X.f0 is4L I4 HI4.out Ai ci _ HI2_.out HI1.out (by decide)).mono ?_
   rintro e w5 ⟨rfl, hb⟩; refine ⟨_, rfl, ?_⟩; clear HI1 HI2_; have HR2 := aM (HR.out.below hb); have HP2 := aM (Kd.R_below HP.out hb); have HB2 := aM (below_step HB.out hb); have HX2 := aM (blk_below HX.out hb); clear HR HP HB HX hb; have HR := HR2; have HP := HP2; have HB := HB2; have HX := HX2; clear HR2 HP2 HB2 HX2; refine hK.out _ _ ⟨HR.out.c0, HR.out.c4, (cells_at HX.out).1, (cells_at HX.out).2.2.1, (cells_at HX.out).2.2.2.1, (cells_at HX.out).2.2.2.2.1, (cells_at HX.out).2.2.2.2.2.1, (cells_at HX.out).2.2.2.2.2.2⟩ (fun hHeld => ?_); clear hK K; refine norm_ (a' := ?_) ?_ ?_; rotate_left
   ·show Act.put _ (some 122) _ = _
    simp only [Act.put, sA, sZ, sS, i64_w, i32_w]
    rfl
   refine pure_ (i := 37) (N := some 123) (v := ?_) (a' := ?_) (bzA 110 19495109435159237300846591) rfl rfl (any_of HT_.out (by kernel_rfl)) (fun _ _ _ h => h) (Or.inl ⟨by rfl, ?_⟩) ?_ ?_; rotate_left
   ·intro w'
    go_simp
    with_reducible rfl
   rotate_left
   ·simp only [Act.put, sA, sZ, sS, i64_w, i32_w]
    rfl
   refine pure_ (i := 38) (N := some 124) (v := ?_) (a' := ?_) (bzA 110 19495109435159512178753535) rfl rfl (any_of HT_.out (by kernel_rfl)) (fun _ _ _ h => h) (Or.inl ⟨by rfl, ?_⟩) ?_ ?_; rotate_left
   ·intro w'
    go_simp
    with_reducible rfl
   rotate_left
   ·simp only [Act.put, sA, sZ, sS, i64_w, i32_w]
    rfl
   exact norm_ (by first | (simp only [putAll, Act.put, sA, sZ, sS]; done) | (simp only [putAll, Act.put, sA, sZ, sS]; rfl)) (hCont.out (_, _, _, _) _ ⟨HR.out, HP.out, HB.out, HX.out⟩)
  ·skip
   refine pure_ (i := 33) (N := some 119) (v := undef) (a' := ?_) (bzA 110 19495109435158979602808831) rfl rfl (any_of HT_.out (by kernel_rfl)) (fun _ _ _ h => h) (Or.inr ⟨by rfl, rfl⟩) ?_ ?_; rotate_left
   ·simp only [Act.put, sA, sZ, sS, i64_w, i32_w]
    rfl
   refine pure_ (i := 34) (N := some 120) (v := undef) (a' := ?_) (bzA 110 19495109435158996782678015) rfl rfl (any_of HT_.out (by kernel_rfl)) (fun _ _ _ h => h) (Or.inr ⟨by rfl, rfl⟩) ?_ ?_; rotate_left
   ·simp only [Act.put, sA, sZ, sS, i64_w, i32_w]
    rfl
   refine pure_ (i := 35) (N := some 121) (v := undef) (a' := ?_) (bzA 110 19495109435159031142416383) rfl rfl (any_of HT_.out (by kernel_rfl)) (fun _ _ _ h => h) (Or.inr ⟨by rfl, rfl⟩) ?_ ?_; rotate_left
   ·simp only [Act.put, sA, sZ, sS, i64_w, i32_w]
    rfl
   refine pure_ (i := 36) (N := some 122) (v := undef) (a' := ?_) (bzA 110 19495109435159099861893119) rfl rfl (any_of HT_.out (by kernel_rfl)) (fun _ _ _ h => h) (Or.inr ⟨by rfl, rfl⟩) ?_ ?_; rotate_left
   ·simp only [Act.put, sA, sZ, sS, i64_w, i32_w]
    rfl
   refine pure_ (i := 37) (N := some 123) (v := ?_) (a' := ?_) (bzA 110 19495109435159237300846591) rfl rfl (any_of HT_.out (by kernel_rfl)) (fun _ _ _ h => h) (Or.inl ⟨by rfl, ?_⟩) ?_ ?_; rotate_left
   ·intro w'
    go_simp
    with_reducible rfl
   rotate_left
   ·simp only [Act.put, sA, sZ, sS, i64_w, i32_w]
    rfl
   refine pure_ (i := 38) (N := some 124) (v := ?_) (a' := ?_) (bzA 110 19495109435159512178753535) rfl rfl (any_of HT_.out (by kernel_rfl)) (fun _ _ _ h => h) (Or.inl ⟨by rfl, ?_⟩) ?_ ?_; rotate_left
   ·intro w'
    go_simp
    with_reducible rfl
   rotate_left
   ·simp only [Act.put, sA, sZ, sS, i64_w, i32_w]
    rfl
   exact norm_ (by first | (simp only [putAll, Act.put, sA, sZ, sS]; done) | (simp only [putAll, Act.put, sA, sZ, sS]; rfl)) (hCont.out (_, _, _, _) _ ⟨HR.out, HP.out, HB.out, HX.out⟩)
 rintro ⟨u119, u120, u121, u122⟩ wj hF_; have HR2 := aM hF_.1; have HP2 := aM hF_.2.1; have HB2 := aM hF_.2.2.1; have HX2 := aM hF_.2.2.2; clear HR HP HB HX hHeld hF_; have HR := HR2; have HP := HP2; have HB := HB2; have HX := HX2; clear HR2 HP2 HB2 HX2; have hHeld : wj.cell? ⟨gb, 0, none⟩ = some (.slice A0 l.length c0) ∧ wj.cell? ⟨gb, 4, none⟩ = some (.int .u64 nd) ∧ wj.cell? ⟨gx, 0, none⟩ = some (.int .u32 X.f0) ∧ wj.cell? ⟨gx, 2, none⟩ = some (.int .u64 X.f2) ∧ wj.cell? ⟨gx, 3, none⟩ = some (.int .u64 X.f3) ∧ wj.cell? ⟨gx, 4, none⟩ = some (.int .u64 X.f4) ∧ wj.cell? ⟨gx, 5, none⟩ = some (.int .u64 X.f5) ∧ wj.cell? ⟨gx, 6, none⟩ = some (.int .u64 X.f6) := ⟨HR.out.c0, HR.out.c4, (cells_at HX.out).1, (cells_at HX.out).2.2.1, (cells_at HX.out).2.2.2.1, (cells_at HX.out).2.2.2.2.1, (cells_at HX.out).2.2.2.2.2.1, (cells_at HX.out).2.2.2.2.2.2⟩; refine norm_ (a' := ?_) ?_ ?_; rotate_left
 ·simp only [putAll, Act.put, sA, sZ, sS]
  rfl
 refine pure_ (i := 40) (N := some 126) (v := ?_) (a' := ?_) (bzA 110 19495109435160611690381311) rfl rfl (any_of HT_.out (by kernel_rfl)) (fun _ _ _ h => h) (Or.inl ⟨by rfl, ?_⟩) ?_ ?_; rotate_left
 ·intro w'
  go_simp
  with_reducible rfl
 rotate_left
 ·simp only [Act.put, sA, sZ, sS, i64_w, i32_w]
  rfl
 refine join_ (σ := Value) 63 (bzA 110 19495109435167208760147967) (fun s => [(127, s), (128, (.bool (LD || TL)))]) (fun _ w' => Rdr w' gb A0 c0 l ty en (.slice AP ps.length cP) nd ∧ Kd.R k50 50 w' w0.heap.size (fun k => k ≠ gx) (.slice AP ps.length cP) ps ∧ Below w0.heap.size w0 w' ∧ w'.heap[gx]? = some (.cells (cells50 X) 50 (0, 0))) ?_ ?_; rotate_left
 ·intro hCont_; have hCont := aM hCont_; clear hCont_
  cases LD
  ·skip
   refine pure_ (i := 41) (N := some 127) (v := ?_) (a' := ?_) (bzA 110 19495109435162810713636863) rfl rfl (any_of HT_.out (by kernel_rfl)) (fun _ _ _ h => h) (Or.inl ⟨by rfl, ?_⟩) ?_ ?_; rotate_left
   ·intro w'
    go_simp
    with_reducible rfl
   rotate_left
   ·simp only [Act.put, sA, sZ, sS, i64_w, i32_w]
    rfl
   refine pure_ (i := 42) (N := some 128) (v := ?_) (a' := ?_) (bzA 110 19495109435167208760147967) rfl rfl (any_of HT_.out (by kernel_rfl)) (fun _ _ _ h => h) (Or.inl ⟨by rfl, ?_⟩) ?_ ?_; rotate_left
   ·intro w'
    go_simp
    with_reducible rfl
   rotate_left
   ·simp only [Act.put, sA, sZ, sS, i64_w, i32_w]
    rfl
   exact norm_ (by first | (simp only [putAll, Act.put, sA, sZ, sS]; done) | (simp only [putAll, Act.put, sA, sZ, sS]; rfl)) (hCont.out _ _ ⟨HR.out, HP.out, HB.out, HX.out⟩)
  ·skip
   refine pure_ (i := 41) (N := some 127) (v := undef) (a' := ?_) (bzA 110 19495109435162810713636863) rfl rfl (any_of HT_.out (by kernel_rfl)) (fun _ _ _ h => h) (Or.inr ⟨by rfl, rfl⟩) ?_ ?_; rotate_left
   ·simp only [Act.put, sA, sZ, sS, i64_w, i32_w]
    rfl
   refine pure_ (i := 42) (N := some 128) (v := ?_) (a' := ?_) (bzA 110 19495109435167208760147967) rfl rfl (any_of HT_.out (by kernel_rfl)) (fun _ _ _ h => h) (Or.inl ⟨by rfl, ?_⟩) ?_ ?_; rotate_left
   ·intro w'
    go_simp
    with_reducible rfl
   rotate_left
   ·simp only [Act.put, sA, sZ, sS, i64_w, i32_w]
    rfl
   exact norm_ (by first | (simp only [putAll, Act.put, sA, sZ, sS]; done) | (simp only [putAll, Act.put, sA, sZ, sS]; rfl)) (hCont.out _ _ ⟨HR.out, HP.out, HB.out, HX.out⟩)
 rintro u127 wj hF_; have HR2 := aM hF_.1; have HP2 := aM hF_.2.1; have HB2 := aM hF_.2.2.1; have HX2 := aM hF_.2.2.2; clear HR HP HB HX hHeld hF_; have HR := HR2; have HP := HP2; have HB := HB2; have HX := HX2; clear HR2 HP2 HB2 HX2; have hHeld : wj.cell? ⟨gb, 0, none⟩ = some (.slice A0 l.length c0) ∧ wj.cell? ⟨gb, 4, none⟩ = some (.int .u64 nd) ∧ wj.cell? ⟨gx, 0, none⟩ = some (.int .u32 X.f0) ∧ wj.cell? ⟨gx, 2, none⟩ = some (.int .u64 X.f2) ∧ wj.cell? ⟨gx, 3, none⟩ = some (.int .u64 X.f3) ∧ wj.cell? ⟨gx, 4, none⟩ = some (.int .u64 X.f4) ∧ wj.cell? ⟨gx, 5, none⟩ = some (.int .u64 X.f5) ∧ wj.cell? ⟨gx, 6, none⟩ = some (.int .u64 X.f6) := ⟨HR.out.c0, HR.out.c4, (cells_at HX.out).1, (cells_at HX.out).2.2.1, (cells_at HX.out).2.2.2.1, (cells_at HX.out).2.2.2.2.1, (cells_at HX.out).2.2.2.2.2.1, (cells_at HX.out).2.2.2.2.2.2⟩; refine norm_ (a' := ?_) ?_ ?_; rotate_left
 ·simp only [putAll, Act.put, sA, sZ, sS]
  rfl
 refine pure_ (i := 43) (N := some 129) (v := ?_) (a' := ?_) (bzA 110 19495109435176004853170175) rfl rfl (any_of HT_.out (by kernel_rfl)) (fun _ _ _ h => h) (Or.inl ⟨by rfl, ?_⟩) ?_ ?_; rotate_left
 ·intro w'
  go_simp
  with_reducible rfl
 rotate_left
 ·simp only [Act.put, sA, sZ, sS, i64_w, i32_w]
  rfl
 refine pure_ (i := 52) (N := some 138) (v := ?_) (a' := ?_) (bzA 110 19495109439679604480540671) rfl rfl (any_of HT_.out (by kernel_rfl)) (fun _ _ _ h => h) (Or.inl ⟨by rfl, ?_⟩) ?_ ?_; rotate_left
 ·intro w'
  go_simp
  with_reducible rfl
 rotate_left
 ·simp only [Act.put, sA, sZ, sS, i64_w, i32_w]
  rfl
 refine join_ (σ := Value × Value × Value × Value × Value) 54 (bzA 110 19495109441913812108181503) (fun s => [(130, s.1), (131, s.2.1), (132, s.2.2.1), (133, s.2.2.2.1), (134, s.2.2.2.2), (135, (.bool ((LD || TL) && GT))), (136, (.agg #[.bool ((LD || TL) && GT), .int .i64 3, .int .u64 32]))]) (fun _ w' => Rdr w' gb A0 c0 l ty en (.slice AP ps.length cP) nd ∧ Kd.R k50 50 w' w0.heap.size (fun k => k ≠ gx) (.slice AP ps.length cP) ps ∧ Below w0.heap.size w0 w' ∧ w'.heap[gx]? = some (.cells (cells50 X) 50 (0, 0))) ?_ ?_; rotate_left
 ·intro hCont_; have hCont := aM hCont_; clear hCont_
  cases LD
  ·skip
   cases TL
   ·skip
    refine pure_ (i := 44) (N := some 130) (v := undef) (a' := ?_) (bzA 110 19495109439697196666585087) rfl rfl (any_of HT_.out (by kernel_rfl)) (fun _ _ _ h => h) (Or.inr ⟨by rfl, rfl⟩) ?_ ?_; rotate_left
    ·simp only [Act.put, sA, sZ, sS, i64_w, i32_w]
     rfl
    refine pure_ (i := 45) (N := some 131) (v := undef) (a' := ?_) (bzA 110 19495109439732381038673919) rfl rfl (any_of HT_.out (by kernel_rfl)) (fun _ _ _ h => h) (Or.inr ⟨by rfl, rfl⟩) ?_ ?_; rotate_left
    ·simp only [Act.put, sA, sZ, sS, i64_w, i32_w]
     rfl
    refine pure_ (i := 46) (N := some 132) (v := undef) (a' := ?_) (bzA 110 19495109439802749782851583) rfl rfl (any_of HT_.out (by kernel_rfl)) (fun _ _ _ h => h) (Or.inr ⟨by rfl, rfl⟩) ?_ ?_; rotate_left
    ·simp only [Act.put, sA, sZ, sS, i64_w, i32_w]
     rfl
    refine pure_ (i := 47) (N := some 133) (v := undef) (a' := ?_) (bzA 110 19495109439943487271206911) rfl rfl (any_of HT_.out (by kernel_rfl)) (fun _ _ _ h => h) (Or.inr ⟨by rfl, rfl⟩) ?_ ?_; rotate_left
    ·simp only [Act.put, sA, sZ, sS, i64_w, i32_w]
     rfl
    refine pure_ (i := 48) (N := some 134) (v := undef) (a' := ?_) (bzA 110 19495109440224962247917567) rfl rfl (any_of HT_.out (by kernel_rfl)) (fun _ _ _ h => h) (Or.inr ⟨by rfl, rfl⟩) ?_ ?_; rotate_left
    ·simp only [Act.put, sA, sZ, sS, i64_w, i32_w]
     rfl
    refine pure_ (i := 49) (N := some 135) (v := ?_) (a' := ?_) (bzA 110 19495109440787912201338879) rfl rfl (any_of HT_.out (by kernel_rfl)) (fun _ _ _ h => h) (Or.inl ⟨by rfl, ?_⟩) ?_ ?_; rotate_left
    ·intro w'
     go_simp
     with_reducible rfl
    rotate_left
    ·simp only [Act.put, sA, sZ, sS, i64_w, i32_w]
     rfl
    refine pure_ (i := 50) (N := some 136) (v := ?_) (a' := ?_) (bzA 110 19495109441913812108181503) rfl rfl (any_of HT_.out (by kernel_rfl)) (fun _ _ _ h => h) (Or.inl ⟨by rfl, ?_⟩) ?_ ?_; rotate_left
    ·intro w'
     go_simp
     with_reducible rfl
    rotate_left
    ·simp only [Act.put, sA, sZ, sS, i64_w, i32_w]
     rfl
    exact norm_ (by first | (simp only [putAll, Act.put, sA, sZ, sS]; done) | (simp only [putAll, Act.put, sA, sZ, sS]; rfl)) (hCont.out (_, _, _, _, _) _ ⟨HR.out, HP.out, HB.out, HX.out⟩)
   ·skip
    refine pure_ (i := 44) (N := some 130) (v := ?_) (a' := ?_) (bzA 110 19495109439697196666585087) rfl rfl (any_of HT_.out (by kernel_rfl)) (fun _ _ _ h => h) (Or.inl ⟨by rfl, ?_⟩) ?_ ?_; rotate_left
    ·intro w'
     go_simp
     with_reducible rfl
    rotate_left
    ·simp only [Act.put, sA, sZ, sS, i64_w, i32_w]
     rfl
    refine take_ (i := 45) (N := some 131) (v := ?_) (a' := ?_) (bzA 110 19495109439732381038673919) rfl rfl (take_ofW HT_.out HW_.out (by kernel_rfl)) (fun _ _ _ h => h) (Or.inl ⟨by rfl, ?_⟩) hHeld ?_ ?_; rotate_left
    ·rintro w' ⟨s0, s1, s2, s3, s4, s5, s6, s7⟩
     go_simp
     with_reducible rfl
    rotate_left
    ·simp only [Act.put, sA, sZ, sS, i64_w, i32_w]
     rfl
    refine pure_ (i := 46) (N := some 132) (v := ?_) (a' := ?_) (bzA 110 19495109439802749782851583) rfl rfl (any_of HT_.out (by kernel_rfl)) (fun _ _ _ h => h) (Or.inl ⟨by rfl, ?_⟩) ?_ ?_; rotate_left
    ·intro w'
     go_simp
     with_reducible rfl
    rotate_left
    ·simp only [Act.put, sA, sZ, sS, i64_w, i32_w]
     rfl
    refine take_ (i := 47) (N := some 133) (v := ?_) (a' := ?_) (bzA 110 19495109439943487271206911) rfl rfl (take_ofW HT_.out HW_.out (by kernel_rfl)) (fun _ _ _ h => h) (Or.inl ⟨by rfl, ?_⟩) hHeld ?_ ?_; rotate_left
    ·rintro w' ⟨s0, s1, s2, s3, s4, s5, s6, s7⟩
     go_simp
     with_reducible rfl
    rotate_left
    ·simp only [Act.put, sA, sZ, sS, i64_w, i32_w]
     rfl
    refine pure_ (i := 48) (N := some 134) (v := ?_) (a' := ?_) (bzA 110 19495109440224962247917567) rfl rfl (any_of HT_.out (by kernel_rfl)) (fun _ _ _ h => h) (Or.inl ⟨by rfl, ?_⟩) ?_ ?_; rotate_left
    ·intro w'
     go_simp
     with_reducible rfl
    rotate_left
    ·simp only [Act.put, sA, sZ, sS, i64_w, i32_w]
     rfl
    refine pure_ (i := 49) (N := some 135) (v := ?_) (a' := ?_) (bzA 110 19495109440787912201338879) rfl rfl (any_of HT_.out (by kernel_rfl)) (fun _ _ _ h => h) (Or.inl ⟨by rfl, ?_⟩) ?_ ?_; rotate_left
    ·intro w'
     go_simp
     with_reducible rfl
    rotate_left
    ·simp only [Act.put, sA, sZ, sS, i64_w, i32_w]
     rfl
    refine pure_ (i := 50) (N := some 136) (v := ?_) (a' := ?_) (bzA 110 19495109441913812108181503) rfl rfl (any_of HT_.out (by kernel_rfl)) (fun _ _ _ h => h) (Or.inl ⟨by rfl, ?_⟩) ?_ ?_; rotate_left
    ·intro w'
     go_simp
     with_reducible rfl
    rotate_left
    ·simp only [Act.put, sA, sZ, sS, i64_w, i32_w]
     rfl
    exact norm_ (by first | (simp only [putAll, Act.put, sA, sZ, sS]; done) | (simp only [putAll, Act.put, sA, sZ, sS]; rfl)) (hCont.out (_, _, _, _, _) _ ⟨HR.out, HP.out, HB.out, HX.out⟩)
  ·skip
   refine pure_ (i := 44) (N := some 130) (v := ?_) (a' := ?_) (bzA 110 19495109439697196666585087) rfl rfl (any_of HT_.out (by kernel_rfl)) (fun _ _ _ h => h) (Or.inl ⟨by rfl, ?_⟩) ?_ ?_; rotate_left
   ·intro w'
    go_simp
    with_reducible rfl
   rotate_left
   ·simp only [Act.put, sA, sZ, sS, i64_w, i32_w]
    rfl
   refine take_ (i := 45) (N := some 131) (v := ?_) (a' := ?_) (bzA 110 19495109439732381038673919) rfl rfl (take_ofW HT_.out HW_.out (by kernel_rfl)) (fun _ _ _ h => h) (Or.inl ⟨by rfl, ?_⟩) hHeld ?_ ?_; rotate_left
   ·rintro w' ⟨s0, s1, s2, s3, s4, s5, s6, s7⟩
    go_simp
    with_reducible rfl
   rotate_left
   ·simp only [Act.put, sA, sZ, sS, i64_w, i32_w]
    rfl
   refine pure_ (i := 46) (N := some 132) (v := ?_) (a' := ?_) (bzA 110 19495109439802749782851583) rfl rfl (any_of HT_.out (by kernel_rfl)) (fun _ _ _ h => h) (Or.inl ⟨by rfl, ?_⟩) ?_ ?_; rotate_left
   ·intro w'
    go_simp
    with_reducible rfl
   rotate_left
   ·simp only [Act.put, sA, sZ, sS, i64_w, i32_w]
    rfl
   refine take_ (i := 47) (N := some 133) (v := ?_) (a' := ?_) (bzA 110 19495109439943487271206911) rfl rfl (take_ofW HT_.out HW_.out (by kernel_rfl)) (fun _ _ _ h => h) (Or.inl ⟨by rfl, ?_⟩) hHeld ?_ ?_; rotate_left
   ·rintro w' ⟨s0, s1, s2, s3, s4, s5, s6, s7⟩
    go_simp
    with_reducible rfl
   rotate_left
   ·simp only [Act.put, sA, sZ, sS, i64_w, i32_w]
    rfl
   refine pure_ (i := 48) (N := some 134) (v := ?_) (a' := ?_) (bzA 110 19495109440224962247917567) rfl rfl (any_of HT_.out (by kernel_rfl)) (fun _ _ _ h => h) (Or.inl ⟨by rfl, ?_⟩) ?_ ?_; rotate_left
   ·intro w'
    go_simp
    with_reducible rfl
   rotate_left
   ·simp only [Act.put, sA, sZ, sS, i64_w, i32_w]
    rfl
   refine pure_ (i := 49) (N := some 135) (v := ?_) (a' := ?_) (bzA 110 19495109440787912201338879) rfl rfl (any_of HT_.out (by kernel_rfl)) (fun _ _ _ h => h) (Or.inl ⟨by rfl, ?_⟩) ?_ ?_; rotate_left
   ·intro w'
    go_simp
    with_reducible rfl
   rotate_left
   ·simp only [Act.put, sA, sZ, sS, i64_w, i32_w]
    rfl
   refine pure_ (i := 50) (N := some 136) (v := ?_) (a' := ?_) (bzA 110 19495109441913812108181503) rfl rfl (any_of HT_.out (by kernel_rfl)) (fun _ _ _ h => h) (Or.inl ⟨by rfl, ?_⟩) ?_ ?_; rotate_left
   ·intro w'
    go_simp
    with_reducible rfl
   rotate_left
   ·simp only [Act.put, sA, sZ, sS, i64_w, i32_w]
    rfl
   exact norm_ (by first | (simp only [putAll, Act.put, sA, sZ, sS]; done) | (simp only [putAll, Act.put, sA, sZ, sS]; rfl)) (hCont.out (_, _, _, _, _) _ ⟨HR.out, HP.out, HB.out, HX.out⟩)
 rintro ⟨u130, u131, u132, u133, u134⟩ wj hF_; have HR2 := aM hF_.1; have HP2 := aM hF_.2.1; have HB2 := aM hF_.2.2.1; have HX2 := aM hF_.2.2.2; clear HR HP HB HX hHeld hF_; have HR := HR2; have HP := HP2; have HB := HB2; have HX := HX2; clear HR2 HP2 HB2 HX2; have hHeld : wj.cell? ⟨gb, 0, none⟩ = some (.slice A0 l.length c0) ∧ wj.cell? ⟨gb, 4, none⟩ = some (.int .u64 nd) ∧ wj.cell? ⟨gx, 0, none⟩ = some (.int .u32 X.f0) ∧ wj.cell? ⟨gx, 2, none⟩ = some (.int .u64 X.f2) ∧ wj.cell? ⟨gx, 3, none⟩ = some (.int .u64 X.f3) ∧ wj.cell? ⟨gx, 4, none⟩ = some (.int .u64 X.f4) ∧ wj.cell? ⟨gx, 5, none⟩ = some (.int .u64 X.f5) ∧ wj.cell? ⟨gx, 6, none⟩ = some (.int .u64 X.f6) := ⟨HR.out.c0, HR.out.c4, (cells_at HX.out).1, (cells_at HX.out).2.2.1, (cells_at HX.out).2.2.2.1, (cells_at HX.out).2.2.2.2.1, (cells_at HX.out).2.2.2.2.2.1, (cells_at HX.out).2.2.2.2.2.2⟩; refine norm_ (a' := ?_) ?_ ?_; rotate_left
 ·simp only [putAll, Act.put, sA, sZ, sS]
  rfl
 refine join_ (σ := Value × Value × Value × Value × Value × Value) 47 (bzA 110 19495110585828117460287487) (fun s => [(139, s.1), (140, s.2.1), (141, s.2.2.1), (142, s.2.2.2.1), (143, s.2.2.2.2.1), (144, s.2.2.2.2.2), (145, (.bool (LD || (TL && NZ))))]) (fun _ w' => Rdr w' gb A0 c0 l ty en (.slice AP ps.length cP) nd ∧ Kd.R k50 50 w' w0.heap.size (fun k => k ≠ gx) (.slice AP ps.length cP) ps ∧ Below w0.heap.size w0 w' ∧ w'.heap[gx]? = some (.cells (cells50 X) 50 (0, 0))) ?_ ?_; rotate_left
 ·intro hCont_; have hCont := aM hCont_; clear hCont_
  cases LD
  ·skip
   cases TL
   ·skip
    refine pure_ (i := 53) (N := some 139) (v := ?_) (a' := ?_) (bzA 110 19495109450921011362922495) rfl rfl (any_of HT_.out (by kernel_rfl)) (fun _ _ _ h => h) (Or.inl ⟨by rfl, ?_⟩) ?_ ?_; rotate_left
    ·intro w'
     go_simp
     with_reducible rfl
    rotate_left
    ·simp only [Act.put, sA, sZ, sS, i64_w, i32_w]
     rfl
    refine pure_ (i := 54) (N := some 140) (v := ?_) (a' := ?_) (bzA 110 19495109468935409872404479) rfl rfl (any_of HT_.out (by kernel_rfl)) (fun _ _ _ h => h) (Or.inl ⟨by rfl, ?_⟩) ?_ ?_; rotate_left
    ·intro w'
     go_simp
     with_reducible rfl
    rotate_left
    ·simp only [Act.put, sA, sZ, sS, i64_w, i32_w]
     rfl
    refine pure_ (i := 55) (N := some 141) (v := undef) (a' := ?_) (bzA 110 19495109504964206891368447) rfl rfl (any_of HT_.out (by kernel_rfl)) (fun _ _ _ h => h) (Or.inr ⟨by rfl, rfl⟩) ?_ ?_; rotate_left
    ·simp only [Act.put, sA, sZ, sS, i64_w, i32_w]
     rfl
    refine pure_ (i := 56) (N := some 142) (v := undef) (a' := ?_) (bzA 110 19495109577021800929296383) rfl rfl (any_of HT_.out (by kernel_rfl)) (fun _ _ _ h => h) (Or.inr ⟨by rfl, rfl⟩) ?_ ?_; rotate_left
    ·simp only [Act.put, sA, sZ, sS, i64_w, i32_w]
     rfl
    refine pure_ (i := 57) (N := some 143) (v := undef) (a' := ?_) (bzA 110 19495109721136989005152255) rfl rfl (any_of HT_.out (by kernel_rfl)) (fun _ _ _ h => h) (Or.inr ⟨by rfl, rfl⟩) ?_ ?_; rotate_left
    ·simp only [Act.put, sA, sZ, sS, i64_w, i32_w]
     rfl
    refine pure_ (i := 58) (N := some 144) (v := ?_) (a' := ?_) (bzA 110 19495110009367365156863999) rfl rfl (any_of HT_.out (by kernel_rfl)) (fun _ _ _ h => h) (Or.inl ⟨by rfl, ?_⟩) ?_ ?_; rotate_left
    ·intro w'
     go_simp
     with_reducible rfl
    rotate_left
    ·simp only [Act.put, sA, sZ, sS, i64_w, i32_w]
     rfl
    refine pure_ (i := 59) (N := some 145) (v := ?_) (a' := ?_) (bzA 110 19495110585828117460287487) rfl rfl (any_of HT_.out (by kernel_rfl)) (fun _ _ _ h => h) (Or.inl ⟨by rfl, ?_⟩) ?_ ?_; rotate_left
    ·intro w'
     go_simp
     with_reducible rfl
    rotate_left
    ·simp only [Act.put, sA, sZ, sS, i64_w, i32_w]
     rfl
    exact norm_ (by first | (simp only [putAll, Act.put, sA, sZ, sS]; done) | (simp only [putAll, Act.put, sA, sZ, sS]; rfl)) (hCont.out (_, _, _, _, _, _) _ ⟨HR.out, HP.out, HB.out, HX.out⟩)
   ·skip
    refine pure_ (i := 53) (N := some 139) (v := ?_) (a' := ?_) (bzA 110 19495109450921011362922495) rfl rfl (any_of HT_.out (by kernel_rfl)) (fun _ _ _ h => h) (Or.inl ⟨by rfl, ?_⟩) ?_ ?_; rotate_left
    ·intro w'
     go_simp
     with_reducible rfl
    rotate_left
    ·simp only [Act.put, sA, sZ, sS, i64_w, i32_w]
     rfl
    refine pure_ (i := 54) (N := some 140) (v := ?_) (a' := ?_) (bzA 110 19495109468935409872404479) rfl rfl (any_of HT_.out (by kernel_rfl)) (fun _ _ _ h => h) (Or.inl ⟨by rfl, ?_⟩) ?_ ?_; rotate_left
    ·intro w'
     go_simp
     with_reducible rfl
    rotate_left
    ·simp only [Act.put, sA, sZ, sS, i64_w, i32_w]
     rfl
    refine pure_ (i := 55) (N := some 141) (v := ?_) (a' := ?_) (bzA 110 19495109504964206891368447) rfl rfl (any_of HT_.out (by kernel_rfl)) (fun _ _ _ h => h) (Or.inl ⟨by rfl, ?_⟩) ?_ ?_; rotate_left
    ·intro w'
     go_simp
     with_reducible rfl
    rotate_left
    ·simp only [Act.put, sA, sZ, sS, i64_w, i32_w]
     rfl
    refine take_ (i := 56) (N := some 142) (v := ?_) (a' := ?_) (bzA 110 19495109577021800929296383) rfl rfl (take_ofW HT_.out HW_.out (by kernel_rfl)) (fun _ _ _ h => h) (Or.inl ⟨by rfl, ?_⟩) hHeld ?_ ?_; rotate_left
    ·rintro w' ⟨s0, s1, s2, s3, s4, s5, s6, s7⟩
     go_simp
     with_reducible rfl
    rotate_left
    ·simp only [Act.put, sA, sZ, sS, i64_w, i32_w]
     rfl
    refine pure_ (i := 57) (N := some 143) (v := ?_) (a' := ?_) (bzA 110 19495109721136989005152255) rfl rfl (any_of HT_.out (by kernel_rfl)) (fun _ _ _ h => h) (Or.inl ⟨by rfl, ?_⟩) ?_ ?_; rotate_left
    ·intro w'
     go_simp
     with_reducible rfl
    rotate_left
    ·simp only [Act.put, sA, sZ, sS, i64_w, i32_w]
     rfl
    refine pure_ (i := 58) (N := some 144) (v := ?_) (a' := ?_) (bzA 110 19495110009367365156863999) rfl rfl (any_of HT_.out (by kernel_rfl)) (fun _ _ _ h => h) (Or.inl ⟨by rfl, ?_⟩) ?_ ?_; rotate_left
    ·intro w'
     go_simp
     with_reducible rfl
    rotate_left
    ·simp only [Act.put, sA, sZ, sS, i64_w, i32_w]
     rfl
    refine pure_ (i := 59) (N := some 145) (v := ?_) (a' := ?_) (bzA 110 19495110585828117460287487) rfl rfl (any_of HT_.out (by kernel_rfl)) (fun _ _ _ h => h) (Or.inl ⟨by rfl, ?_⟩) ?_ ?_; rotate_left
    ·intro w'
     go_simp
     with_reducible rfl
    rotate_left
    ·simp only [Act.put, sA, sZ, sS, i64_w, i32_w]
     rfl
    exact norm_ (by first | (simp only [putAll, Act.put, sA, sZ, sS]; done) | (simp only [putAll, Act.put, sA, sZ, sS]; rfl)) (hCont.out (_, _, _, _, _, _) _ ⟨HR.out, HP.out, HB.out, HX.out⟩)
  ·skip
   refine pure_ (i := 53) (N := some 139) (v := undef) (a' := ?_) (bzA 110 19495109450921011362922495) rfl rfl (any_of HT_.out (by kernel_rfl)) (fun _ _ _ h => h) (Or.inr ⟨by rfl, rfl⟩) ?_ ?_; rotate_left
   ·simp only [Act.put, sA, sZ, sS, i64_w, i32_w]
    rfl
   refine pure_ (i := 54) (N := some 140) (v := undef) (a' := ?_) (bzA 110 19495109468935409872404479) rfl rfl (any_of HT_.out (by kernel_rfl)) (fun _ _ _ h => h) (Or.inr ⟨by rfl, rfl⟩) ?_ ?_; rotate_left
   ·simp only [Act.put, sA, sZ, sS, i64_w, i32_w]
    rfl
   refine pure_ (i := 55) (N := some 141) (v := undef) (a' := ?_) (bzA 110 19495109504964206891368447) rfl rfl (any_of HT_.out (by kernel_rfl)) (fun _ _ _ h => h) (Or.inr ⟨by rfl, rfl⟩) ?_ ?_; rotate_left
   ·simp only [Act.put, sA, sZ, sS, i64_w, i32_w]
    rfl
   refine pure_ (i := 56) (N := some 142) (v := undef) (a' := ?_) (bzA 110 19495109577021800929296383) rfl rfl (any_of HT_.out (by kernel_rfl)) (fun _ _ _ h => h) (Or.inr ⟨by rfl, rfl⟩) ?_ ?_; rotate_left
   ·simp only [Act.put, sA, sZ, sS, i64_w, i32_w]
    rfl
   refine pure_ (i := 57) (N := some 143) (v := undef) (a' := ?_) (bzA 110 19495109721136989005152255) rfl rfl (any_of HT_.out (by kernel_rfl)) (fun _ _ _ h => h) (Or.inr ⟨by rfl, rfl⟩) ?_ ?_; rotate_left
   ·simp only [Act.put, sA, sZ, sS, i64_w, i32_w]
    rfl
   refine pure_ (i := 58) (N := some 144) (v := undef) (a' := ?_) (bzA 110 19495110009367365156863999) rfl rfl (any_of HT_.out (by kernel_rfl)) (fun _ _ _ h => h) (Or.inr ⟨by rfl, rfl⟩) ?_ ?_; rotate_left
   ·simp only [Act.put, sA, sZ, sS, i64_w, i32_w]
    rfl
   refine pure_ (i := 59) (N := some 145) (v := ?_) (a' := ?_) (bzA 110 19495110585828117460287487) rfl rfl (any_of HT_.out (by kernel_rfl)) (fun _ _ _ h => h) (Or.inl ⟨by rfl, ?_⟩) ?_ ?_; rotate_left
   ·intro w'
    go_simp
    with_reducible rfl
   rotate_left
   ·simp only [Act.put, sA, sZ, sS, i64_w, i32_w]
    rfl
   exact norm_ (by first | (simp only [putAll, Act.put, sA, sZ, sS]; done) | (simp only [putAll, Act.put, sA, sZ, sS]; rfl)) (hCont.out (_, _, _, _, _, _) _ ⟨HR.out, HP.out, HB.out, HX.out⟩)
 rintro ⟨u139, u140, u141, u142, u143, u144⟩ wj hF_; have HR2 := aM hF_.1; have HP2 := aM hF_.2.1; have HB2 := aM hF_.2.2.1; have HX2 := aM hF_.2.2.2; clear HR HP HB HX hHeld hF_; have HR := HR2; have HP := HP2; have HB := HB2; have HX := HX2; clear HR2 HP2 HB2 HX2; have hHeld : wj.cell? ⟨gb, 0, none⟩ = some (.slice A0 l.length c0) ∧ wj.cell? ⟨gb, 4, none⟩ = some (.int .u64 nd) ∧ wj.cell? ⟨gx, 0, none⟩ = some (.int .u32 X.f0) ∧ wj.cell? ⟨gx, 2, none⟩ = some (.int .u64 X.f2) ∧ wj.cell? ⟨gx, 3, none⟩ = some (.int .u64 X.f3) ∧ wj.cell? ⟨gx, 4, none⟩ = some (.int .u64 X.f4) ∧ wj.cell? ⟨gx, 5, none⟩ = some (.int .u64 X.f5) ∧ wj.cell? ⟨gx, 6, none⟩ = some (.int .u64 X.f6) := ⟨HR.out.c0, HR.out.c4, (cells_at HX.out).1, (cells_at HX.out).2.2.1, (cells_at HX.out).2.2.2.1, (cells_at HX.out).2.2.2.2.1, (cells_at HX.out).2.2.2.2.2.1, (cells_at HX.out).2.2.2.2.2.2⟩; refine norm_ (a' := ?_) ?_ ?_; rotate_left
 ·simp only [putAll, Act.put, sA, sZ, sS]
  rfl
 refine pure_ (i := 60) (N := some 146) (v := ?_) (a' := ?_) (bzA 110 19495111738749622067134463) rfl rfl (any_of HT_.out (by kernel_rfl)) (fun _ _ _ h => h) (Or.inl ⟨by rfl, ?_⟩) ?_ ?_; rotate_left
 ·intro w'
  go_simp
  with_reducible rfl
 rotate_left
 ·simp only [Act.put, sA, sZ, sS, i64_w, i32_w]
  rfl
 refine join_ (σ := Value × Value × Value × Value × Value × Value × Value) 37 (bzA 110 19496290024527330264743935) (fun s => [(147, s.1), (148, s.2.1), (149, s.2.2.1), (150, s.2.2.2.1), (151, s.2.2.2.2.1), (152, s.2.2.2.2.2.1), (153, s.2.2.2.2.2.2), (154, (.bool ((LD || (TL && NZ)) && (OD || BIG)))), (155, (.agg #[.bool ((LD || (TL && NZ)) && (OD || BIG)), .int .i64 3, .int .u64 48]))]) (fun _ w' => Rdr w' gb A0 c0 l ty en (.slice AP ps.length cP) nd ∧ Kd.R k50 50 w' w0.heap.size (fun k => k ≠ gx) (.slice AP ps.length cP) ps ∧ Below w0.heap.size w0 w' ∧ w'.heap[gx]? = some (.cells (cells50 X) 50 (0, 0))) ?_ ?_; rotate_left
 ·intro hCont_; have hCont := aM hCont_; clear hCont_
  cases LD
  ·skip
   cases TL
   ·skip
    refine pure_ (i := 61) (N := some 147) (v := undef) (a' := ?_) (bzA 110 19495114044592631280828415) rfl rfl (any_of HT_.out (by kernel_rfl)) (fun _ _ _ h => h) (Or.inr ⟨by rfl, rfl⟩) ?_ ?_; rotate_left
    ·simp only [Act.put, sA, sZ, sS, i64_w, i32_w]
     rfl
    refine pure_ (i := 62) (N := some 148) (v := undef) (a' := ?_) (bzA 110 19495118656278649708216319) rfl rfl (any_of HT_.out (by kernel_rfl)) (fun _ _ _ h => h) (Or.inr ⟨by rfl, rfl⟩) ?_ ?_; rotate_left
    ·simp only [Act.put, sA, sZ, sS, i64_w, i32_w]
     rfl
    refine pure_ (i := 63) (N := some 149) (v := undef) (a' := ?_) (bzA 110 19495127879650686562992127) rfl rfl (any_of HT_.out (by kernel_rfl)) (fun _ _ _ h => h) (Or.inr ⟨by rfl, rfl⟩) ?_ ?_; rotate_left
    ·simp only [Act.put, sA, sZ, sS, i64_w, i32_w]
     rfl
    refine pure_ (i := 64) (N := some 150) (v := undef) (a' := ?_) (bzA 110 19495146326394760272543743) rfl rfl (any_of HT_.out (by kernel_rfl)) (fun _ _ _ h => h) (Or.inr ⟨by rfl, rfl⟩) ?_ ?_; rotate_left
    ·simp only [Act.put, sA, sZ, sS, i64_w, i32_w]
     rfl
    refine pure_ (i := 65) (N := some 151) (v := undef) (a' := ?_) (bzA 110 19495183219882907691646975) rfl rfl (any_of HT_.out (by kernel_rfl)) (fun _ _ _ h => h) (Or.inr ⟨by rfl, rfl⟩) ?_ ?_; rotate_left
    ·simp only [Act.put, sA, sZ, sS, i64_w, i32_w]
     rfl
    refine pure_ (i := 66) (N := some 152) (v := undef) (a' := ?_) (bzA 110 19495257006859202529853439) rfl rfl (any_of HT_.out (by kernel_rfl)) (fun _ _ _ h => h) (Or.inr ⟨by rfl, rfl⟩) ?_ ?_; rotate_left
    ·simp only [Act.put, sA, sZ, sS, i64_w, i32_w]
     rfl
    refine pure_ (i := 67) (N := some 153) (v := undef) (a' := ?_) (bzA 110 19495404580811792206266367) rfl rfl (any_of HT_.out (by kernel_rfl)) (fun _ _ _ h => h) (Or.inr ⟨by rfl, rfl⟩) ?_ ?_; rotate_left
    ·simp only [Act.put, sA, sZ, sS, i64_w, i32_w]
     rfl
    refine pure_ (i := 68) (N := some 154) (v := ?_) (a' := ?_) (bzA 110 19495699728716971559092223) rfl rfl (any_of HT_.out (by kernel_rfl)) (fun _ _ _ h => h) (Or.inl ⟨by rfl, ?_⟩) ?_ ?_; rotate_left
    ·intro w'
     go_simp
     with_reducible rfl
    rotate_left
    ·simp only [Act.put, sA, sZ, sS, i64_w, i32_w]
     rfl
    refine pure_ (i := 69) (N := some 155) (v := ?_) (a' := ?_) (bzA 110 19496290024527330264743935) rfl rfl (any_of HT_.out (by kernel_rfl)) (fun _ _ _ h => h) (Or.inl ⟨by rfl, ?_⟩) ?_ ?_; rotate_left
    ·intro w'
     go_simp
     with_reducible rfl
    rotate_left
    ·simp only [Act.put, sA, sZ, sS, i64_w, i32_w]
     rfl
    exact norm_ (by first | (simp only [putAll, Act.put, sA, sZ, sS]; done) | (simp only [putAll, Act.put, sA, sZ, sS]; rfl)) (hCont.out (_, _, _, _, _, _, _) _ ⟨HR.out, HP.out, HB.out, HX.out⟩)
   ·skip
    cases NZ
    ·skip
     refine pure_ (i := 61) (N := some 147) (v := undef) (a' := ?_) (bzA 110 19495114044592631280828415) rfl rfl (any_of HT_.out (by kernel_rfl)) (fun _ _ _ h => h) (Or.inr ⟨by rfl, rfl⟩) ?_ ?_; rotate_left
     ·simp only [Act.put, sA, sZ, sS, i64_w, i32_w]
      rfl
     refine pure_ (i := 62) (N := some 148) (v := undef) (a' := ?_) (bzA 110 19495118656278649708216319) rfl rfl (any_of HT_.out (by kernel_rfl)) (fun _ _ _ h => h) (Or.inr ⟨by rfl, rfl⟩) ?_ ?_; rotate_left
     ·simp only [Act.put, sA, sZ, sS, i64_w, i32_w]
      rfl
     refine pure_ (i := 63) (N := some 149) (v := undef) (a' := ?_) (bzA 110 19495127879650686562992127) rfl rfl (any_of HT_.out (by kernel_rfl)) (fun _ _ _ h => h) (Or.inr ⟨by rfl, rfl⟩) ?_ ?_; rotate_left
     ·simp only [Act.put, sA, sZ, sS, i64_w, i32_w]
      rfl
     refine pure_ (i := 64) (N := some 150) (v := undef) (a' := ?_) (bzA 110 19495146326394760272543743) rfl rfl (any_of HT_.out (by kernel_rfl)) (fun _ _ _ h => h) (Or.inr ⟨by rfl, rfl⟩) ?_ ?_; rotate_left
     ·simp only [Act.put, sA, sZ, sS, i64_w, i32_w]
      rfl
     refine pure_ (i := 65) (N := some 151) (v := undef) (a' := ?_) (bzA 110 19495183219882907691646975) rfl rfl (any_of HT_.out (by kernel_rfl)) (fun _ _ _ h => h) (Or.inr ⟨by rfl, rfl⟩) ?_ ?_; rotate_left
     ·simp only [Act.put, sA, sZ, sS, i64_w, i32_w]
      rfl
     refine pure_ (i := 66) (N := some 152) (v := undef) (a' := ?_) (bzA 110 19495257006859202529853439) rfl rfl (any_of HT_.out (by kernel_rfl)) (fun _ _ _ h => h) (Or.inr ⟨by rfl, rfl⟩) ?_ ?_; rotate_left
     ·simp only [Act.put, sA, sZ, sS, i64_w, i32_w]
      rfl
     refine pure_ (i := 67) (N := some 153) (v := undef) (a' := ?_) (bzA 110 19495404580811792206266367) rfl rfl (any_of HT_.out (by kernel_rfl)) (fun _ _ _ h => h) (Or.inr ⟨by rfl, rfl⟩) ?_ ?_; rotate_left
     ·simp only [Act.put, sA, sZ, sS, i64_w, i32_w]
      rfl
     refine pure_ (i := 68) (N := some 154) (v := ?_) (a' := ?_) (bzA 110 19495699728716971559092223) rfl rfl (any_of HT_.out (by kernel_rfl)) (fun _ _ _ h => h) (Or.inl ⟨by rfl, ?_⟩) ?_ ?_; rotate_left
     ·intro w'
      go_simp
      with_reducible rfl
     rotate_left
     ·simp only [Act.put, sA, sZ, sS, i64_w, i32_w]
      rfl
     refine pure_ (i := 69) (N := some 155) (v := ?_) (a' := ?_) (bzA 110 19496290024527330264743935) rfl rfl (any_of HT_.out (by kernel_rfl)) (fun _ _ _ h => h) (Or.inl ⟨by rfl, ?_⟩) ?_ ?_; rotate_left
     ·intro w'
      go_simp
      with_reducible rfl
     rotate_left
     ·simp only [Act.put, sA, sZ, sS, i64_w, i32_w]
      rfl
     exact norm_ (by first | (simp only [putAll, Act.put, sA, sZ, sS]; done) | (simp only [putAll, Act.put, sA, sZ, sS]; rfl)) (hCont.out (_, _, _, _, _, _, _) _ ⟨HR.out, HP.out, HB.out, HX.out⟩)
    ·skip
     cases OD
     ·skip
      refine pure_ (i := 61) (N := some 147) (v := ?_) (a' := ?_) (bzA 110 19495114044592631280828415) rfl rfl (any_of HT_.out (by kernel_rfl)) (fun _ _ _ h => h) (Or.inl ⟨by rfl, ?_⟩) ?_ ?_; rotate_left
      ·intro w'
       go_simp
       with_reducible rfl
      rotate_left
      ·simp only [Act.put, sA, sZ, sS, i64_w, i32_w]
       rfl
      refine pure_ (i := 62) (N := some 148) (v := ?_) (a' := ?_) (bzA 110 19495118656278649708216319) rfl rfl (any_of HT_.out (by kernel_rfl)) (fun _ _ _ h => h) (Or.inl ⟨by rfl, ?_⟩) ?_ ?_; rotate_left
      ·intro w'
       go_simp
       with_reducible rfl
      rotate_left
      ·simp only [Act.put, sA, sZ, sS, i64_w, i32_w]
       rfl
      refine pure_ (i := 63) (N := some 149) (v := ?_) (a' := ?_) (bzA 110 19495127879650686562992127) rfl rfl (any_of HT_.out (by kernel_rfl)) (fun _ _ _ h => h) (Or.inl ⟨by rfl, ?_⟩) ?_ ?_; rotate_left
      ·intro w'
       go_simp
       with_reducible rfl
      rotate_left
      ·simp only [Act.put, sA, sZ, sS, i64_w, i32_w]
       rfl
      refine pure_ (i := 64) (N := some 150) (v := ?_) (a' := ?_) (bzA 110 19495146326394760272543743) rfl rfl (any_of HT_.out (by kernel_rfl)) (fun _ _ _ h => h) (Or.inl ⟨by rfl, ?_⟩) ?_ ?_; rotate_left
      ·intro w'
       go_simp
       with_reducible rfl
      rotate_left
      ·simp only [Act.put, sA, sZ, sS, i64_w, i32_w]
       rfl
      refine take_ (i := 65) (N := some 151) (v := ?_) (a' := ?_) (bzA 110 19495183219882907691646975) rfl rfl (take_ofW HT_.out HW_.out (by kernel_rfl)) (fun _ _ _ h => h) (Or.inl ⟨by rfl, ?_⟩) hHeld ?_ ?_; rotate_left
      ·rintro w' ⟨s0, s1, s2, s3, s4, s5, s6, s7⟩
       go_simp
       with_reducible rfl
      rotate_left
      ·simp only [Act.put, sA, sZ, sS, i64_w, i32_w]
       rfl
      refine pure_ (i := 66) (N := some 152) (v := ?_) (a' := ?_) (bzA 110 19495257006859202529853439) rfl rfl (any_of HT_.out (by kernel_rfl)) (fun _ _ _ h => h) (Or.inl ⟨by rfl, ?_⟩) ?_ ?_; rotate_left
      ·intro w'
       go_simp
       with_reducible rfl
      rotate_left
      ·simp only [Act.put, sA, sZ, sS, i64_w, i32_w]
       rfl
      refine pure_ (i := 67) (N := some 153) (v := ?_) (a' := ?_) (bzA 110 19495404580811792206266367) rfl rfl (any_of HT_.out (by kernel_rfl)) (fun _ _ _ h => h) (Or.inl ⟨by rfl, ?_⟩) ?_ ?_; rotate_left
      ·intro w'
       go_simp
       with_reducible rfl
      rotate_left
      ·simp only [Act.put, sA, sZ, sS, i64_w, i32_w]
       rfl
      refine pure_ (i := 68) (N := some 154) (v := ?_) (a' := ?_) (bzA 110 19495699728716971559092223) rfl rfl (any_of HT_.out (by kernel_rfl)) (fun _ _ _ h => h) (Or.inl ⟨by rfl, ?_⟩) ?_ ?_; rotate_left
      ·intro w'
       go_simp
       with_reducible rfl
      rotate_left
      ·simp only [Act.put, sA, sZ, sS, i64_w, i32_w]
       rfl
      refine pure_ (i := 69) (N := some 155) (v := ?_) (a' := ?_) (bzA 110 19496290024527330264743935) rfl rfl (any_of HT_.out (by kernel_rfl)) (fun _ _ _ h => h) (Or.inl ⟨by rfl, ?_⟩) ?_ ?_; rotate_left
      ·intro w'
       go_simp
       with_reducible rfl
      rotate_left
      ·simp only [Act.put, sA, sZ, sS, i64_w, i32_w]
       rfl
      exact norm_ (by first | (simp only [putAll, Act.put, sA, sZ, sS]; done) | (simp only [putAll, Act.put, sA, sZ, sS]; rfl)) (hCont.out (_, _, _, _, _, _, _) _ ⟨HR.out, HP.out, HB.out, HX.out⟩)
     ·skip
      refine pure_ (i := 61) (N := some 147) (v := ?_) (a' := ?_) (bzA 110 19495114044592631280828415) rfl rfl (any_of HT_.out (by kernel_rfl)) (fun _ _ _ h => h) (Or.inl ⟨by rfl, ?_⟩) ?_ ?_; rotate_left
      ·intro w'
       go_simp
       with_reducible rfl
      rotate_left
      ·simp only [Act.put, sA, sZ, sS, i64_w, i32_w]
       rfl
      refine pure_ (i := 62) (N := some 148) (v := ?_) (a' := ?_) (bzA 110 19495118656278649708216319) rfl rfl (any_of HT_.out (by kernel_rfl)) (fun _ _ _ h => h) (Or.inl ⟨by rfl, ?_⟩) ?_ ?_; rotate_left
      ·intro w'
       go_simp
       with_reducible rfl
      rotate_left
      ·simp only [Act.put, sA, sZ, sS, i64_w, i32_w]
       rfl
      refine pure_ (i := 63) (N := some 149) (v := ?_) (a' := ?_) (bzA 110 19495127879650686562992127) rfl rfl (any_of HT_.out (by kernel_rfl)) (fun _ _ _ h => h) (Or.inl ⟨by rfl, ?_⟩) ?_ ?_; rotate_left
      ·intro w'
       go_simp
       with_reducible rfl
      rotate_left
      ·simp only [Act.put, sA, sZ, sS, i64_w, i32_w]
       rfl
      refine pure_ (i := 64) (N := some 150) (v := undef) (a' := ?_) (bzA 110 19495146326394760272543743) rfl rfl (any_of HT_.out (by kernel_rfl)) (fun _ _ _ h => h) (Or.inr ⟨by rfl, rfl⟩) ?_ ?_; rotate_left
      ·simp only [Act.put, sA, sZ, sS, i64_w, i32_w]
       rfl
      refine pure_ (i := 65) (N := some 151) (v := undef) (a' := ?_) (bzA 110 19495183219882907691646975) rfl rfl (any_of HT_.out (by kernel_rfl)) (fun _ _ _ h => h) (Or.inr ⟨by rfl, rfl⟩) ?_ ?_; rotate_left
      ·simp only [Act.put, sA, sZ, sS, i64_w, i32_w]
       rfl
      refine pure_ (i := 66) (N := some 152) (v := undef) (a' := ?_) (bzA 110 19495257006859202529853439) rfl rfl (any_of HT_.out (by kernel_rfl)) (fun _ _ _ h => h) (Or.inr ⟨by rfl, rfl⟩) ?_ ?_; rotate_left
      ·simp only [Act.put, sA, sZ, sS, i64_w, i32_w]
       rfl
      refine pure_ (i := 67) (N := some 153) (v := ?_) (a' := ?_) (bzA 110 19495404580811792206266367) rfl rfl (any_of HT_.out (by kernel_rfl)) (fun _ _ _ h => h) (Or.inl ⟨by rfl, ?_⟩) ?_ ?_; rotate_left
      ·intro w'
       go_simp
       with_reducible rfl
      rotate_left
      ·simp only [Act.put, sA, sZ, sS, i64_w, i32_w]
       rfl
      refine pure_ (i := 68) (N := some 154) (v := ?_) (a' := ?_) (bzA 110 19495699728716971559092223) rfl rfl (any_of HT_.out (by kernel_rfl)) (fun _ _ _ h => h) (Or.inl ⟨by rfl, ?_⟩) ?_ ?_; rotate_left
      ·intro w'
       go_simp
       with_reducible rfl
      rotate_left
      ·simp only [Act.put, sA, sZ, sS, i64_w, i32_w]
       rfl
      refine pure_ (i := 69) (N := some 155) (v := ?_) (a' := ?_) (bzA 110 19496290024527330264743935) rfl rfl (any_of HT_.out (by kernel_rfl)) (fun _ _ _ h => h) (Or.inl ⟨by rfl, ?_⟩) ?_ ?_; rotate_left
      ·intro w'
       go_simp
       with_reducible rfl
      rotate_left
      ·simp only [Act.put, sA, sZ, sS, i64_w, i32_w]
       rfl
      exact norm_ (by first | (simp only [putAll, Act.put, sA, sZ, sS]; done) | (simp only [putAll, Act.put, sA, sZ, sS]; rfl)) (hCont.out (_, _, _, _, _, _, _) _ ⟨HR.out, HP.out, HB.out, HX.out⟩)
  ·skip
   cases OD
   ·skip
    refine pure_ (i := 61) (N := some 147) (v := ?_) (a' := ?_) (bzA 110 19495114044592631280828415) rfl rfl (any_of HT_.out (by kernel_rfl)) (fun _ _ _ h => h) (Or.inl ⟨by rfl, ?_⟩) ?_ ?_; rotate_left
    ·intro w'
     go_simp
     with_reducible rfl
    rotate_left
    ·simp only [Act.put, sA, sZ, sS, i64_w, i32_w]
     rfl
    refine pure_ (i := 62) (N := some 148) (v := ?_) (a' := ?_) (bzA 110 19495118656278649708216319) rfl rfl (any_of HT_.out (by kernel_rfl)) (fun _ _ _ h => h) (Or.inl ⟨by rfl, ?_⟩) ?_ ?_; rotate_left
    ·intro w'
     go_simp
     with_reducible rfl
    rotate_left
    ·simp only [Act.put, sA, sZ, sS, i64_w, i32_w]
     rfl
    refine pure_ (i := 63) (N := some 149) (v := ?_) (a' := ?_) (bzA 110 19495127879650686562992127) rfl rfl (any_of HT_.out (by kernel_rfl)) (fun _ _ _ h => h) (Or.inl ⟨by rfl, ?_⟩) ?_ ?_; rotate_left
    ·intro w'
     go_simp
     with_reducible rfl
    rotate_left
    ·simp only [Act.put, sA, sZ, sS, i64_w, i32_w]
     rfl
    refine pure_ (i := 64) (N := some 150) (v := ?_) (a' := ?_) (bzA 110 19495146326394760272543743) rfl rfl (any_of HT_.out (by kernel_rfl)) (fun _ _ _ h => h) (Or.inl ⟨by rfl, ?_⟩) ?_ ?_; rotate_left
    ·intro w'
     go_simp
     with_reducible rfl
    rotate_left
    ·simp only [Act.put, sA, sZ, sS, i64_w, i32_w]
     rfl
    refine take_ (i := 65) (N := some 151) (v := ?_) (a' := ?_) (bzA 110 19495183219882907691646975) rfl rfl (take_ofW HT_.out HW_.out (by kernel_rfl)) (fun _ _ _ h => h) (Or.inl ⟨by rfl, ?_⟩) hHeld ?_ ?_; rotate_left
    ·rintro w' ⟨s0, s1, s2, s3, s4, s5, s6, s7⟩
     go_simp
     with_reducible rfl
    rotate_left
    ·simp only [Act.put, sA, sZ, sS, i64_w, i32_w]
     rfl
    refine pure_ (i := 66) (N := some 152) (v := ?_) (a' := ?_) (bzA 110 19495257006859202529853439) rfl rfl (any_of HT_.out (by kernel_rfl)) (fun _ _ _ h => h) (Or.inl ⟨by rfl, ?_⟩) ?_ ?_; rotate_left
    ·intro w'
     go_simp
     with_reducible rfl
    rotate_left
    ·simp only [Act.put, sA, sZ, sS, i64_w, i32_w]
     rfl
    refine pure_ (i := 67) (N := some 153) (v := ?_) (a' := ?_) (bzA 110 19495404580811792206266367) rfl rfl (any_of HT_.out (by kernel_rfl)) (fun _ _ _ h => h) (Or.inl ⟨by rfl, ?_⟩) ?_ ?_; rotate_left
    ·intro w'
     go_simp
     with_reducible rfl
    rotate_left
    ·simp only [Act.put, sA, sZ, sS, i64_w, i32_w]
     rfl
    refine pure_ (i := 68) (N := some 154) (v := ?_) (a' := ?_) (bzA 110 19495699728716971559092223) rfl rfl (any_of HT_.out (by kernel_rfl)) (fun _ _ _ h => h) (Or.inl ⟨by rfl, ?_⟩) ?_ ?_; rotate_left
    ·intro w'
     go_simp
     with_reducible rfl
    rotate_left
    ·simp only [Act.put, sA, sZ, sS, i64_w, i32_w]
     rfl
    refine pure_ (i := 69) (N := some 155) (v := ?_) (a' := ?_) (bzA 110 19496290024527330264743935) rfl rfl (any_of HT_.out (by kernel_rfl)) (fun _ _ _ h => h) (Or.inl ⟨by rfl, ?_⟩) ?_ ?_; rotate_left
    ·intro w'
     go_simp
     with_reducible rfl
    rotate_left
    ·simp only [Act.put, sA, sZ, sS, i64_w, i32_w]
     rfl
    exact norm_ (by first | (simp only [putAll, Act.put, sA, sZ, sS]; done) | (simp only [putAll, Act.put, sA, sZ, sS]; rfl)) (hCont.out (_, _, _, _, _, _, _) _ ⟨HR.out, HP.out, HB.out, HX.out⟩)
   ·skip
    refine pure_ (i := 61) (N := some 147) (v := ?_) (a' := ?_) (bzA 110 19495114044592631280828415) rfl rfl (any_of HT_.out (by kernel_rfl)) (fun _ _ _ h => h) (Or.inl ⟨by rfl, ?_⟩) ?_ ?_; rotate_left
    ·intro w'
     go_simp
     with_reducible rfl
    rotate_left
    ·simp only [Act.put, sA, sZ, sS, i64_w, i32_w]
     rfl
    refine pure_ (i := 62) (N := some 148) (v := ?_) (a' := ?_) (bzA 110 19495118656278649708216319) rfl rfl (any_of HT_.out (by kernel_rfl)) (fun _ _ _ h => h) (Or.inl ⟨by rfl, ?_⟩) ?_ ?_; rotate_left
    ·intro w'
     go_simp
     with_reducible rfl
    rotate_left
    ·simp only [Act.put, sA, sZ, sS, i64_w, i32_w]
     rfl
    refine pure_ (i := 63) (N := some 149) (v := ?_) (a' := ?_) (bzA 110 19495127879650686562992127) rfl rfl (any_of HT_.out (by kernel_rfl)) (fun _ _ _ h => h) (Or.inl ⟨by rfl, ?_⟩) ?_ ?_; rotate_left
    ·intro w'
     go_simp
     with_reducible rfl
    rotate_left
    ·simp only [Act.put, sA, sZ, sS, i64_w, i32_w]
     rfl
    refine pure_ (i := 64) (N := some 150) (v := undef) (a' := ?_) (bzA 110 19495146326394760272543743) rfl rfl (any_of HT_.out (by kernel_rfl)) (fun _ _ _ h => h) (Or.inr ⟨by rfl, rfl⟩) ?_ ?_; rotate_left
    ·simp only [Act.put, sA, sZ, sS, i64_w, i32_w]
     rfl
    refine pure_ (i := 65) (N := some 151) (v := undef) (a' := ?_) (bzA 110 19495183219882907691646975) rfl rfl (any_of HT_.out (by kernel_rfl)) (fun _ _ _ h => h) (Or.inr ⟨by rfl, rfl⟩) ?_ ?_; rotate_left
    ·simp only [Act.put, sA, sZ, sS, i64_w, i32_w]
     rfl
    refine pure_ (i := 66) (N := some 152) (v := undef) (a' := ?_) (bzA 110 19495257006859202529853439) rfl rfl (any_of HT_.out (by kernel_rfl)) (fun _ _ _ h => h) (Or.inr ⟨by rfl, rfl⟩) ?_ ?_; rotate_left
    ·simp only [Act.put, sA, sZ, sS, i64_w, i32_w]
     rfl
    refine pure_ (i := 67) (N := some 153) (v := ?_) (a' := ?_) (bzA 110 19495404580811792206266367) rfl rfl (any_of HT_.out (by kernel_rfl)) (fun _ _ _ h => h) (Or.inl ⟨by rfl, ?_⟩) ?_ ?_; rotate_left
    ·intro w'
     go_simp
     with_reducible rfl
    rotate_left
    ·simp only [Act.put, sA, sZ, sS, i64_w, i32_w]
     rfl
    refine pure_ (i := 68) (N := some 154) (v := ?_) (a' := ?_) (bzA 110 19495699728716971559092223) rfl rfl (any_of HT_.out (by kernel_rfl)) (fun _ _ _ h => h) (Or.inl ⟨by rfl, ?_⟩) ?_ ?_; rotate_left
    ·intro w'
     go_simp
     with_reducible rfl
    rotate_left
    ·simp only [Act.put, sA, sZ, sS, i64_w, i32_w]
     rfl
    refine pure_ (i := 69) (N := some 155) (v := ?_) (a' := ?_) (bzA 110 19496290024527330264743935) rfl rfl (any_of HT_.out (by kernel_rfl)) (fun _ _ _ h => h) (Or.inl ⟨by rfl, ?_⟩) ?_ ?_; rotate_left
    ·intro w'
     go_simp
     with_reducible rfl
    rotate_left
    ·simp only [Act.put, sA, sZ, sS, i64_w, i32_w]
     rfl
    exact norm_ (by first | (simp only [putAll, Act.put, sA, sZ, sS]; done) | (simp only [putAll, Act.put, sA, sZ, sS]; rfl)) (hCont.out (_, _, _, _, _, _, _) _ ⟨HR.out, HP.out, HB.out, HX.out⟩)
 rintro ⟨u147, u148, u149, u150, u151, u152, u153⟩ wj hF_; have HR2 := aM hF_.1; have HP2 := aM hF_.2.1; have HB2 := aM hF_.2.2.1; have HX2 := aM hF_.2.2.2; clear HR HP HB HX hHeld hF_; have HR := HR2; have HP := HP2; have HB := HB2; have HX := HX2; clear HR2 HP2 HB2 HX2; have hHeld : wj.cell? ⟨gb, 0, none⟩ = some (.slice A0 l.length c0) ∧ wj.cell? ⟨gb, 4, none⟩ = some (.int .u64 nd) ∧ wj.cell? ⟨gx, 0, none⟩ = some (.int .u32 X.f0) ∧ wj.cell? ⟨gx, 2, none⟩ = some (.int .u64 X.f2) ∧ wj.cell? ⟨gx, 3, none⟩ = some (.int .u64 X.f3) ∧ wj.cell? ⟨gx, 4, none⟩ = some (.int .u64 X.f4) ∧ wj.cell? ⟨gx, 5, none⟩ = some (.int .u64 X.f5) ∧ wj.cell? ⟨gx, 6, none⟩ = some (.int .u64 X.f6) := ⟨HR.out.c0, HR.out.c4, (cells_at HX.out).1, (cells_at HX.out).2.2.1, (cells_at HX.out).2.2.2.1, (cells_at HX.out).2.2.2.2.1, (cells_at HX.out).2.2.2.2.2.1, (cells_at HX.out).2.2.2.2.2.2⟩; refine norm_ (a' := ?_) ?_ ?_; rotate_left
 ·simp only [putAll, Act.put, sA, sZ, sS]
  rfl
 refine pure_ (i := 71) (N := some 157) (v := ?_) (a' := ?_) (bzA 110 19498651207768765087350783) rfl rfl (any_of HT_.out (by kernel_rfl)) (fun _ _ _ h => h) (Or.inl ⟨by rfl, ?_⟩) ?_ ?_; rotate_left
 ·intro w'
  go_simp
  with_reducible rfl
 rotate_left
 ·simp only [Act.put, sA, sZ, sS, i64_w, i32_w]
  rfl
 refine pure_ (i := 78) (N := some 164) (v := ?_) (a' := ?_) (bzA 110 19800882662672422381027327) rfl rfl (any_of HT_.out (by kernel_rfl)) (fun _ _ _ h => h) (Or.inl ⟨by rfl, ?_⟩) ?_ ?_; rotate_left
 ·intro w'
  go_simp
  with_reducible rfl
 rotate_left
 ·simp only [Act.put, sA, sZ, sS, i64_w, i32_w]
  rfl
 refine pure_ (i := 85) (N := some 171) (v := ?_) (a' := ?_) (bzA 110 58486508890340555971624959) rfl rfl (any_of HT_.out (by kernel_rfl)) (fun _ _ _ h => h) (Or.inl ⟨by rfl, ?_⟩) ?_ ?_; rotate_left
 ·intro w'
  go_simp
  with_reducible rfl
 rotate_left
 ·simp only [Act.put, sA, sZ, sS, i64_w, i32_w]
  rfl
 refine join_ (σ := Value × Value × Value) 29 (bzA 110 58632902251309514973249535) (fun s => [(158, s.1), (159, s.2.1), (160, s.2.2), (161, (.bool (LD && M0))), (162, (.agg #[.bool (LD && M0), .int .i64 3, .int .u64 40]))]) (fun _ w' => Rdr w' gb A0 c0 l ty en (.slice AP ps.length cP) nd ∧ Kd.R k50 50 w' w0.heap.size (fun k => k ≠ gx) (.slice AP ps.length cP) ps ∧ Below w0.heap.size w0 w' ∧ w'.heap[gx]? = some (.cells (cells50 X) 50 (0, 0))) ?_ ?_; rotate_left
 ·intro hCont_; have hCont := aM hCont_; clear hCont_
  cases LD
  ·skip
   refine pure_ (i := 72) (N := some 158) (v := undef) (a' := ?_) (bzA 110 58491231256823425616838655) rfl rfl (any_of HT_.out (by kernel_rfl)) (fun _ _ _ h => h) (Or.inr ⟨by rfl, rfl⟩) ?_ ?_; rotate_left
   ·simp only [Act.put, sA, sZ, sS, i64_w, i32_w]
    rfl
   refine pure_ (i := 73) (N := some 159) (v := undef) (a' := ?_) (bzA 110 58500675989789164907266047) rfl rfl (any_of HT_.out (by kernel_rfl)) (fun _ _ _ h => h) (Or.inr ⟨by rfl, rfl⟩) ?_ ?_; rotate_left
   ·simp only [Act.put, sA, sZ, sS, i64_w, i32_w]
    rfl
   refine pure_ (i := 74) (N := some 160) (v := undef) (a' := ?_) (bzA 110 58519565455720643488120831) rfl rfl (any_of HT_.out (by kernel_rfl)) (fun _ _ _ h => h) (Or.inr ⟨by rfl, rfl⟩) ?_ ?_; rotate_left
   ·simp only [Act.put, sA, sZ, sS, i64_w, i32_w]
    rfl
   refine pure_ (i := 75) (N := some 161) (v := ?_) (a' := ?_) (bzA 110 58557344387583600649830399) rfl rfl (any_of HT_.out (by kernel_rfl)) (fun _ _ _ h => h) (Or.inl ⟨by rfl, ?_⟩) ?_ ?_; rotate_left
   ·intro w'
    go_simp
    with_reducible rfl
   rotate_left
   ·simp only [Act.put, sA, sZ, sS, i64_w, i32_w]
    rfl
   refine pure_ (i := 76) (N := some 162) (v := ?_) (a' := ?_) (bzA 110 58632902251309514973249535) rfl rfl (any_of HT_.out (by kernel_rfl)) (fun _ _ _ h => h) (Or.inl ⟨by rfl, ?_⟩) ?_ ?_; rotate_left
   ·intro w'
    go_simp
    with_reducible rfl
   rotate_left
   ·simp only [Act.put, sA, sZ, sS, i64_w, i32_w]
    rfl
   exact norm_ (by first | (simp only [putAll, Act.put, sA, sZ, sS]; done) | (simp only [putAll, Act.put, sA, sZ, sS]; rfl)) (hCont.out (_, _, _) _ ⟨HR.out, HP.out, HB.out, HX.out⟩)
  ·skip
   refine pure_ (i := 72) (N := some 158) (v := ?_) (a' := ?_) (bzA 110 58491231256823425616838655) rfl rfl (any_of HT_.out (by kernel_rfl)) (fun _ _ _ h => h) (Or.inl ⟨by rfl, ?_⟩) ?_ ?_; rotate_left
   ·intro w'
    go_simp
    with_reducible rfl
   rotate_left
   ·simp only [Act.put, sA, sZ, sS, i64_w, i32_w]
    rfl
   refine take_ (i := 73) (N := some 159) (v := ?_) (a' := ?_) (bzA 110 58500675989789164907266047) rfl rfl (take_ofW HT_.out HW_.out (by kernel_rfl)) (fun _ _ _ h => h) (Or.inl ⟨by rfl, ?_⟩) hHeld ?_ ?_; rotate_left
   ·rintro w' ⟨s0, s1, s2, s3, s4, s5, s6, s7⟩
    go_simp
    with_reducible rfl
   rotate_left
   ·simp only [Act.put, sA, sZ, sS, i64_w, i32_w]
    rfl
   refine pure_ (i := 74) (N := some 160) (v := ?_) (a' := ?_) (bzA 110 58519565455720643488120831) rfl rfl (any_of HT_.out (by kernel_rfl)) (fun _ _ _ h => h) (Or.inl ⟨by rfl, ?_⟩) ?_ ?_; rotate_left
   ·intro w'
    go_simp
    with_reducible rfl
   rotate_left
   ·simp only [Act.put, sA, sZ, sS, i64_w, i32_w]
    rfl
   refine pure_ (i := 75) (N := some 161) (v := ?_) (a' := ?_) (bzA 110 58557344387583600649830399) rfl rfl (any_of HT_.out (by kernel_rfl)) (fun _ _ _ h => h) (Or.inl ⟨by rfl, ?_⟩) ?_ ?_; rotate_left
   ·intro w'
    go_simp
    with_reducible rfl
   rotate_left
   ·simp only [Act.put, sA, sZ, sS, i64_w, i32_w]
    rfl
   refine pure_ (i := 76) (N := some 162) (v := ?_) (a' := ?_) (bzA 110 58632902251309514973249535) rfl rfl (any_of HT_.out (by kernel_rfl)) (fun _ _ _ h => h) (Or.inl ⟨by rfl, ?_⟩) ?_ ?_; rotate_left
   ·intro w'
    go_simp
    with_reducible rfl
   rotate_left
   ·simp only [Act.put, sA, sZ, sS, i64_w, i32_w]
    rfl
   exact norm_ (by first | (simp only [putAll, Act.put, sA, sZ, sS]; done) | (simp only [putAll, Act.put, sA, sZ, sS]; rfl)) (hCont.out (_, _, _) _ ⟨HR.out, HP.out, HB.out, HX.out⟩)
 rintro ⟨u158, u159, u160⟩ wj hF_; have HR2 := aM hF_.1; have HP2 := aM hF_.2.1; have HB2 := aM hF_.2.2.1; have HX2 := aM hF_.2.2.2; clear HR HP HB HX hHeld hF_; have HR := HR2; have HP := HP2; have HB := HB2; have HX := HX2; clear HR2 HP2 HB2 HX2; have hHeld : wj.cell? ⟨gb, 0, none⟩ = some (.slice A0 l.length c0) ∧ wj.cell? ⟨gb, 4, none⟩ = some (.int .u64 nd) ∧ wj.cell? ⟨gx, 0, none⟩ = some (.int .u32 X.f0) ∧ wj.cell? ⟨gx, 2, none⟩ = some (.int .u64 X.f2) ∧ wj.cell? ⟨gx, 3, none⟩ = some (.int .u64 X.f3) ∧ wj.cell? ⟨gx, 4, none⟩ = some (.int .u64 X.f4) ∧ wj.cell? ⟨gx, 5, none⟩ = some (.int .u64 X.f5) ∧ wj.cell? ⟨gx, 6, none⟩ = some (.int .u64 X.f6) := ⟨HR.out.c0, HR.out.c4, (cells_at HX.out).1, (cells_at HX.out).2.2.1, (cells_at HX.out).2.2.2.1, (cells_at HX.out).2.2.2.2.1, (cells_at HX.out).2.2.2.2.2.1, (cells_at HX.out).2.2.2.2.2.2⟩; refine norm_ (a' := ?_) ?_ ?_; rotate_left
 ·simp only [putAll, Act.put, sA, sZ, sS]
  rfl
 refine join_ (σ := Value × Value × Value) 24 (bzA 110 77371252455336267181195263) (fun s => [(165, s.1), (166, s.2.1), (167, s.2.2), (168, (.bool (LD && AL4))), (169, (.agg #[.bool (LD && AL4), .int .i64 3, .int .u64 48]))]) (fun _ w' => Rdr w' gb A0 c0 l ty en (.slice AP ps.length cP) nd ∧ Kd.R k50 50 w' w0.heap.size (fun k => k ≠ gx) (.slice AP ps.length cP) ps ∧ Below w0.heap.size w0 w' ∧ w'.heap[gx]? = some (.cells (cells50 X) 50 (0, 0))) ?_ ?_; rotate_left
 ·intro hCont_; have hCont := aM hCont_; clear hCont_
  cases LD
  ·skip
   refine pure_ (i := 79) (N := some 165) (v := undef) (a' := ?_) (bzA 110 59237365161116829560602623) rfl rfl (any_of HT_.out (by kernel_rfl)) (fun _ _ _ h => h) (Or.inr ⟨by rfl, rfl⟩) ?_ ?_; rotate_left
   ·simp only [Act.put, sA, sZ, sS, i64_w, i32_w]
    rfl
   refine pure_ (i := 80) (N := some 166) (v := undef) (a' := ?_) (bzA 110 60446290980731458735308799) rfl rfl (any_of HT_.out (by kernel_rfl)) (fun _ _ _ h => h) (Or.inr ⟨by rfl, rfl⟩) ?_ ?_; rotate_left
   ·simp only [Act.put, sA, sZ, sS, i64_w, i32_w]
    rfl
   refine pure_ (i := 81) (N := some 167) (v := undef) (a' := ?_) (bzA 110 62864142619960717084721151) rfl rfl (any_of HT_.out (by kernel_rfl)) (fun _ _ _ h => h) (Or.inr ⟨by rfl, rfl⟩) ?_ ?_; rotate_left
   ·simp only [Act.put, sA, sZ, sS, i64_w, i32_w]
    rfl
   refine pure_ (i := 82) (N := some 168) (v := ?_) (a' := ?_) (bzA 110 67699845898419233783545855) rfl rfl (any_of HT_.out (by kernel_rfl)) (fun _ _ _ h => h) (Or.inl ⟨by rfl, ?_⟩) ?_ ?_; rotate_left
   ·intro w'
    go_simp
    with_reducible rfl
   rotate_left
   ·simp only [Act.put, sA, sZ, sS, i64_w, i32_w]
    rfl
   refine pure_ (i := 83) (N := some 169) (v := ?_) (a' := ?_) (bzA 110 77371252455336267181195263) rfl rfl (any_of HT_.out (by kernel_rfl)) (fun _ _ _ h => h) (Or.inl ⟨by rfl, ?_⟩) ?_ ?_; rotate_left
   ·intro w'
    go_simp
    with_reducible rfl
   rotate_left
   ·simp only [Act.put, sA, sZ, sS, i64_w, i32_w]
    rfl
   exact norm_ (by first | (simp only [putAll, Act.put, sA, sZ, sS]; done) | (simp only [putAll, Act.put, sA, sZ, sS]; rfl)) (hCont.out (_, _, _) _ ⟨HR.out, HP.out, HB.out, HX.out⟩)
  ·skip
   refine pure_ (i := 79) (N := some 165) (v := ?_) (a' := ?_) (bzA 110 59237365161116829560602623) rfl rfl (any_of HT_.out (by kernel_rfl)) (fun _ _ _ h => h) (Or.inl ⟨by rfl, ?_⟩) ?_ ?_; rotate_left
   ·intro w'
    go_simp
    with_reducible rfl
   rotate_left
   ·simp only [Act.put, sA, sZ, sS, i64_w, i32_w]
    rfl
   refine take_ (i := 80) (N := some 166) (v := ?_) (a' := ?_) (bzA 110 60446290980731458735308799) rfl rfl (take_ofW HT_.out HW_.out (by kernel_rfl)) (fun _ _ _ h => h) (Or.inl ⟨by rfl, ?_⟩) hHeld ?_ ?_; rotate_left
   ·rintro w' ⟨s0, s1, s2, s3, s4, s5, s6, s7⟩
    go_simp
    with_reducible rfl
   rotate_left
   ·simp only [Act.put, sA, sZ, sS, i64_w, i32_w]
    rfl
   refine pure_ (i := 81) (N := some 167) (v := ?_) (a' := ?_) (bzA 110 62864142619960717084721151) rfl rfl (any_of HT_.out (by kernel_rfl)) (fun _ _ _ h => h) (Or.inl ⟨by rfl, ?_⟩) ?_ ?_; rotate_left
   ·intro w'
    go_simp
    with_reducible rfl
   rotate_left
   ·simp only [Act.put, sA, sZ, sS, i64_w, i32_w]
    rfl
   refine pure_ (i := 82) (N := some 168) (v := ?_) (a' := ?_) (bzA 110 67699845898419233783545855) rfl rfl (any_of HT_.out (by kernel_rfl)) (fun _ _ _ h => h) (Or.inl ⟨by rfl, ?_⟩) ?_ ?_; rotate_left
   ·intro w'
    go_simp
    with_reducible rfl
   rotate_left
   ·simp only [Act.put, sA, sZ, sS, i64_w, i32_w]
    rfl
   refine pure_ (i := 83) (N := some 169) (v := ?_) (a' := ?_) (bzA 110 77371252455336267181195263) rfl rfl (any_of HT_.out (by kernel_rfl)) (fun _ _ _ h => h) (Or.inl ⟨by rfl, ?_⟩) ?_ ?_; rotate_left
   ·intro w'
    go_simp
    with_reducible rfl
   rotate_left
   ·simp only [Act.put, sA, sZ, sS, i64_w, i32_w]
    rfl
   exact norm_ (by first | (simp only [putAll, Act.put, sA, sZ, sS]; done) | (simp only [putAll, Act.put, sA, sZ, sS]; rfl)) (hCont.out (_, _, _) _ ⟨HR.out, HP.out, HB.out, HX.out⟩)
 rintro ⟨u165, u166, u167⟩ wj hF_; have HR2 := aM hF_.1; have HP2 := aM hF_.2.1; have HB2 := aM hF_.2.2.1; have HX2 := aM hF_.2.2.2; clear HR HP HB HX hHeld hF_; have HR := HR2; have HP := HP2; have HB := HB2; have HX := HX2; clear HR2 HP2 HB2 HX2; have hHeld : wj.cell? ⟨gb, 0, none⟩ = some (.slice A0 l.length c0) ∧ wj.cell? ⟨gb, 4, none⟩ = some (.int .u64 nd) ∧ wj.cell? ⟨gx, 0, none⟩ = some (.int .u32 X.f0) ∧ wj.cell? ⟨gx, 2, none⟩ = some (.int .u64 X.f2) ∧ wj.cell? ⟨gx, 3, none⟩ = some (.int .u64 X.f3) ∧ wj.cell? ⟨gx, 4, none⟩ = some (.int .u64 X.f4) ∧ wj.cell? ⟨gx, 5, none⟩ = some (.int .u64 X.f5) ∧ wj.cell? ⟨gx, 6, none⟩ = some (.int .u64 X.f6) := ⟨HR.out.c0, HR.out.c4, (cells_at HX.out).1, (cells_at HX.out).2.2.1, (cells_at HX.out).2.2.2.1, (cells_at HX.out).2.2.2.2.1, (cells_at HX.out).2.2.2.2.2.1, (cells_at HX.out).2.2.2.2.2.2⟩; refine norm_ (a' := ?_) ?_ ?_; rotate_left
 ·simp only [putAll, Act.put, sA, sZ, sS]
  rfl
 refine join_ (σ := Value × Value × Value × Value × Value × Value × Value × Value × Value × Value × Value × Value × Value × Value × Value × Value × Value × Value × Value) 3 (bzA 110 162259276829213363391578010288127) (fun s => [(172, s.1), (173, s.2.1), (174, s.2.2.1), (175, s.2.2.2.1), (176, s.2.2.2.2.1), (177, s.2.2.2.2.2.1), (178, s.2.2.2.2.2.2.1), (179, s.2.2.2.2.2.2.2.1), (180, s.2.2.2.2.2.2.2.2.1), (181, s.2.2.2.2.2.2.2.2.2.1), (182, s.2.2.2.2.2.2.2.2.2.2.1), (183, s.2.2.2.2.2.2.2.2.2.2.2.1), (184, s.2.2.2.2.2.2.2.2.2.2.2.2.1), (185, s.2.2.2.2.2.2.2.2.2.2.2.2.2.1), (186, s.2.2.2.2.2.2.2.2.2.2.2.2.2.2.1), (187, s.2.2.2.2.2.2.2.2.2.2.2.2.2.2.2.1), (188, s.2.2.2.2.2.2.2.2.2.2.2.2.2.2.2.2.1), (189, s.2.2.2.2.2.2.2.2.2.2.2.2.2.2.2.2.2.1), (190, s.2.2.2.2.2.2.2.2.2.2.2.2.2.2.2.2.2.2), (191, (.bool (LD && (MD || LO)))), (192, (.agg #[.bool (LD && (MD || LO)), .int .i64 3, .int .u64 16]))]) (fun _ w' => Rdr w' gb A0 c0 l ty en (.slice AP ps.length cP) nd ∧ Kd.R k50 50 w' w0.heap.size (fun k => k ≠ gx) (.slice AP ps.length cP) ps ∧ Below w0.heap.size w0 w' ∧ w'.heap[gx]? = some (.cells (cells50 X) 50 (0, 0))) ?_ ?_; rotate_left
 ·intro hCont_; have hCont := aM hCont_; clear hCont_
  cases LD
  ·skip
   refine pure_ (i := 86) (N := some 172) (v := undef) (a' := ?_) (bzA 110 154742504910672534362390527) rfl rfl (any_of HT_.out (by kernel_rfl)) (fun _ _ _ h => h) (Or.inr ⟨by rfl, rfl⟩) ?_ ?_; rotate_left
   ·simp only [Act.put, sA, sZ, sS, i64_w, i32_w]
    rfl
   refine pure_ (i := 87) (N := some 173) (v := undef) (a' := ?_) (bzA 110 309485009821345068724781055) rfl rfl (any_of HT_.out (by kernel_rfl)) (fun _ _ _ h => h) (Or.inr ⟨by rfl, rfl⟩) ?_ ?_; rotate_left
   ·simp only [Act.put, sA, sZ, sS, i64_w, i32_w]
    rfl
   refine pure_ (i := 88) (N := some 174) (v := undef) (a' := ?_) (bzA 110 618970019642690137449562111) rfl rfl (any_of HT_.out (by kernel_rfl)) (fun _ _ _ h => h) (Or.inr ⟨by rfl, rfl⟩) ?_ ?_; rotate_left
   ·simp only [Act.put, sA, sZ, sS, i64_w, i32_w]
    rfl
   refine pure_ (i := 89) (N := some 175) (v := undef) (a' := ?_) (bzA 110 1237940039285380274899124223) rfl rfl (any_of HT_.out (by kernel_rfl)) (fun _ _ _ h => h) (Or.inr ⟨by rfl, rfl⟩) ?_ ?_; rotate_left
   ·simp only [Act.put, sA, sZ, sS, i64_w, i32_w]
    rfl
   refine pure_ (i := 90) (N := some 176) (v := undef) (a' := ?_) (bzA 110 2475880078570760549798248447) rfl rfl (any_of HT_.out (by kernel_rfl)) (fun _ _ _ h => h) (Or.inr ⟨by rfl, rfl⟩) ?_ ?_; rotate_left
   ·simp only [Act.put, sA, sZ, sS, i64_w, i32_w]
    rfl
   refine pure_ (i := 91) (N := some 177) (v := undef) (a' := ?_) (bzA 110 4951760157141521099596496895) rfl rfl (any_of HT_.out (by kernel_rfl)) (fun _ _ _ h => h) (Or.inr ⟨by rfl, rfl⟩) ?_ ?_; rotate_left
   ·simp only [Act.put, sA, sZ, sS, i64_w, i32_w]
    rfl
   refine pure_ (i := 92) (N := some 178) (v := undef) (a' := ?_) (bzA 110 9903520314283042199192993791) rfl rfl (any_of HT_.out (by kernel_rfl)) (fun _ _ _ h => h) (Or.inr ⟨by rfl, rfl⟩) ?_ ?_; rotate_left
   ·simp only [Act.put, sA, sZ, sS, i64_w, i32_w]
    rfl
   refine pure_ (i := 93) (N := some 179) (v := undef) (a' := ?_) (bzA 110 19807040628566084398385987583) rfl rfl (any_of HT_.out (by kernel_rfl)) (fun _ _ _ h => h) (Or.inr ⟨by rfl, rfl⟩) ?_ ?_; rotate_left
   ·simp only [Act.put, sA, sZ, sS, i64_w, i32_w]
    rfl
   refine pure_ (i := 94) (N := some 180) (v := undef) (a' := ?_) (bzA 110 39614081257132168796771975167) rfl rfl (any_of HT_.out (by kernel_rfl)) (fun _ _ _ h => h) (Or.inr ⟨by rfl, rfl⟩) ?_ ?_; rotate_left
   ·simp only [Act.put, sA, sZ, sS, i64_w, i32_w]
    rfl
   refine pure_ (i := 95) (N := some 181) (v := undef) (a' := ?_) (bzA 110 79228162514264337593543950335) rfl rfl (any_of HT_.out (by kernel_rfl)) (fun _ _ _ h => h) (Or.inr ⟨by rfl, rfl⟩) ?_ ?_; rotate_left
   ·simp only [Act.put, sA, sZ, sS, i64_w, i32_w]
    rfl
   refine pure_ (i := 96) (N := some 182) (v := undef) (a' := ?_) (bzA 110 158456325028528675187087900671) rfl rfl (any_of HT_.out (by kernel_rfl)) (fun _ _ _ h => h) (Or.inr ⟨by rfl, rfl⟩) ?_ ?_; rotate_left
   ·simp only [Act.put, sA, sZ, sS, i64_w, i32_w]
    rfl
   refine pure_ (i := 97) (N := some 183) (v := undef) (a' := ?_) (bzA 110 316912650057057350374175801343) rfl rfl (any_of HT_.out (by kernel_rfl)) (fun _ _ _ h => h) (Or.inr ⟨by rfl, rfl⟩) ?_ ?_; rotate_left
   ·simp only [Act.put, sA, sZ, sS, i64_w, i32_w]
    rfl
   refine pure_ (i := 98) (N := some 184) (v := undef) (a' := ?_) (bzA 110 633825300114114700748351602687) rfl rfl (any_of HT_.out (by kernel_rfl)) (fun _ _ _ h => h) (Or.inr ⟨by rfl, rfl⟩) ?_ ?_; rotate_left
   ·simp only [Act.put, sA, sZ, sS, i64_w, i32_w]
    rfl
   refine pure_ (i := 99) (N := some 185) (v := undef) (a' := ?_) (bzA 110 1267650600228229401496703205375) rfl rfl (any_of HT_.out (by kernel_rfl)) (fun _ _ _ h => h) (Or.inr ⟨by rfl, rfl⟩) ?_ ?_; rotate_left
   ·simp only [Act.put, sA, sZ, sS, i64_w, i32_w]
    rfl
   refine pure_ (i := 100) (N := some 186) (v := undef) (a' := ?_) (bzA 110 2535301200456458802993406410751) rfl rfl (any_of HT_.out (by kernel_rfl)) (fun _ _ _ h => h) (Or.inr ⟨by rfl, rfl⟩) ?_ ?_; rotate_left
   ·simp only [Act.put, sA, sZ, sS, i64_w, i32_w]
    rfl
   refine pure_ (i := 101) (N := some 187) (v := undef) (a' := ?_) (bzA 110 5070602400912917605986812821503) rfl rfl (any_of HT_.out (by kernel_rfl)) (fun _ _ _ h => h) (Or.inr ⟨by rfl, rfl⟩) ?_ ?_; rotate_left
   ·simp only [Act.put, sA, sZ, sS, i64_w, i32_w]
    rfl
   refine pure_ (i := 102) (N := some 188) (v := undef) (a' := ?_) (bzA 110 10141204801825835211973625643007) rfl rfl (any_of HT_.out (by kernel_rfl)) (fun _ _ _ h => h) (Or.inr ⟨by rfl, rfl⟩) ?_ ?_; rotate_left
   ·simp only [Act.put, sA, sZ, sS, i64_w, i32_w]
    rfl
   refine pure_ (i := 103) (N := some 189) (v := undef) (a' := ?_) (bzA 110 20282409603651670423947251286015) rfl rfl (any_of HT_.out (by kernel_rfl)) (fun _ _ _ h => h) (Or.inr ⟨by rfl, rfl⟩) ?_ ?_; rotate_left
   ·simp only [Act.put, sA, sZ, sS, i64_w, i32_w]
    rfl
   refine pure_ (i := 104) (N := some 190) (v := undef) (a' := ?_) (bzA 110 40564819207303340847894502572031) rfl rfl (any_of HT_.out (by kernel_rfl)) (fun _ _ _ h => h) (Or.inr ⟨by rfl, rfl⟩) ?_ ?_; rotate_left
   ·simp only [Act.put, sA, sZ, sS, i64_w, i32_w]
    rfl
   refine pure_ (i := 105) (N := some 191) (v := ?_) (a' := ?_) (bzA 110 81129638414606681695789005144063) rfl rfl (any_of HT_.out (by kernel_rfl)) (fun _ _ _ h => h) (Or.inl ⟨by rfl, ?_⟩) ?_ ?_; rotate_left
   ·intro w'
    go_simp
    with_reducible rfl
   rotate_left
   ·simp only [Act.put, sA, sZ, sS, i64_w, i32_w]
    rfl
   refine pure_ (i := 106) (N := some 192) (v := ?_) (a' := ?_) (bzA 110 162259276829213363391578010288127) rfl rfl (any_of HT_.out (by kernel_rfl)) (fun _ _ _ h => h) (Or.inl ⟨by rfl, ?_⟩) ?_ ?_; rotate_left
   ·intro w'
    go_simp
    with_reducible rfl
   rotate_left
   ·simp only [Act.put, sA, sZ, sS, i64_w, i32_w]
    rfl
   exact norm_ (by first | (simp only [putAll, Act.put, sA, sZ, sS]; done) | (simp only [putAll, Act.put, sA, sZ, sS]; rfl)) (hCont.out (_, _, _, _, _, _, _, _, _, _, _, _, _, _, _, _, _, _, _) _ ⟨HR.out, HP.out, HB.out, HX.out⟩)
  ·skip
   cases MD
   ·skip
    refine pure_ (i := 86) (N := some 172) (v := ?_) (a' := ?_) (bzA 110 154742504910672534362390527) rfl rfl (any_of HT_.out (by kernel_rfl)) (fun _ _ _ h => h) (Or.inl ⟨by rfl, ?_⟩) ?_ ?_; rotate_left
    ·intro w'
     go_simp
     with_reducible rfl
    rotate_left
    ·simp only [Act.put, sA, sZ, sS, i64_w, i32_w]
     rfl
    refine take_ (i := 87) (N := some 173) (v := ?_) (a' := ?_) (bzA 110 309485009821345068724781055) rfl rfl (take_ofW HT_.out HW_.out (by kernel_rfl)) (fun _ _ _ h => h) (Or.inl ⟨by rfl, ?_⟩) hHeld ?_ ?_; rotate_left
    ·rintro w' ⟨s0, s1, s2, s3, s4, s5, s6, s7⟩
     go_simp
     with_reducible rfl
    rotate_left
    ·simp only [Act.put, sA, sZ, sS, i64_w, i32_w]
     rfl
    refine pure_ (i := 88) (N := some 174) (v := ?_) (a' := ?_) (bzA 110 618970019642690137449562111) rfl rfl (any_of HT_.out (by kernel_rfl)) (fun _ _ _ h => h) (Or.inl ⟨by rfl, ?_⟩) ?_ ?_; rotate_left
    ·intro w'
     go_simp
     with_reducible rfl
    rotate_left
    ·simp only [Act.put, sA, sZ, sS, i64_w, i32_w]
     rfl
    refine pure_ (i := 89) (N := some 175) (v := ?_) (a' := ?_) (bzA 110 1237940039285380274899124223) rfl rfl (any_of HT_.out (by kernel_rfl)) (fun _ _ _ h => h) (Or.inl ⟨by rfl, ?_⟩) ?_ ?_; rotate_left
    ·intro w'
     go_simp
     with_reducible rfl
    rotate_left
    ·simp only [Act.put, sA, sZ, sS, i64_w, i32_w]
     rfl
    refine pure_ (i := 90) (N := some 176) (v := ?_) (a' := ?_) (bzA 110 2475880078570760549798248447) rfl rfl (any_of HT_.out (by kernel_rfl)) (fun _ _ _ h => h) (Or.inl ⟨by rfl, ?_⟩) ?_ ?_; rotate_left
    ·intro w'
     go_simp
     with_reducible rfl
    rotate_left
    ·simp only [Act.put, sA, sZ, sS, i64_w, i32_w]
     rfl
    refine take_ (i := 91) (N := some 177) (v := ?_) (a' := ?_) (bzA 110 4951760157141521099596496895) rfl rfl (take_ofW HT_.out HW_.out (by kernel_rfl)) (fun _ _ _ h => h) (Or.inl ⟨by rfl, ?_⟩) hHeld ?_ ?_; rotate_left
    ·rintro w' ⟨s0, s1, s2, s3, s4, s5, s6, s7⟩
     go_simp
     with_reducible rfl
    rotate_left
    ·simp only [Act.put, sA, sZ, sS, i64_w, i32_w]
     rfl
    refine pure_ (i := 92) (N := some 178) (v := ?_) (a' := ?_) (bzA 110 9903520314283042199192993791) rfl rfl (any_of HT_.out (by kernel_rfl)) (fun _ _ _ h => h) (Or.inl ⟨by rfl, ?_⟩) ?_ ?_; rotate_left
    ·intro w'
     go_simp
     with_reducible rfl
    rotate_left
    ·simp only [Act.put, sA, sZ, sS, i64_w, i32_w]
     rfl
    refine pure_ (i := 93) (N := some 179) (v := ?_) (a' := ?_) (bzA 110 19807040628566084398385987583) rfl rfl (any_of HT_.out (by kernel_rfl)) (fun _ _ _ h => h) (Or.inl ⟨by rfl, ?_⟩) ?_ ?_; rotate_left
    ·intro w'
     go_simp
     with_reducible rfl
    rotate_left
    ·simp only [Act.put, sA, sZ, sS, i64_w, i32_w]
     rfl
    refine pure_ (i := 94) (N := some 180) (v := ?_) (a' := ?_) (bzA 110 39614081257132168796771975167) rfl rfl (any_of HT_.out (by kernel_rfl)) (fun _ _ _ h => h) (Or.inl ⟨by rfl, ?_⟩) ?_ ?_; rotate_left
    ·intro w'
     go_simp
     with_reducible rfl
    rotate_left
    ·simp only [Act.put, sA, sZ, sS, i64_w, i32_w]
     rfl
    refine pure_ (i := 95) (N := some 181) (v := ?_) (a' := ?_) (bzA 110 79228162514264337593543950335) rfl rfl (any_of HT_.out (by kernel_rfl)) (fun _ _ _ h => h) (Or.inl ⟨by rfl, ?_⟩) ?_ ?_; rotate_left
    ·intro w'
     go_simp
     with_reducible rfl
    rotate_left
    ·simp only [Act.put, sA, sZ, sS, i64_w, i32_w]
     rfl
    refine pure_ (i := 96) (N := some 182) (v := ?_) (a' := ?_) (bzA 110 158456325028528675187087900671) rfl rfl (any_of HT_.out (by kernel_rfl)) (fun _ _ _ h => h) (Or.inl ⟨by rfl, ?_⟩) ?_ ?_; rotate_left
    ·intro w'
     go_simp
     with_reducible rfl
    rotate_left
    ·simp only [Act.put, sA, sZ, sS, i64_w, i32_w]
     rfl
    refine take_ (i := 97) (N := some 183) (v := ?_) (a' := ?_) (bzA 110 316912650057057350374175801343) rfl rfl (take_ofW HT_.out HW_.out (by kernel_rfl)) (fun _ _ _ h => h) (Or.inl ⟨by rfl, ?_⟩) hHeld ?_ ?_; rotate_left
    ·rintro w' ⟨s0, s1, s2, s3, s4, s5, s6, s7⟩
     go_simp
     with_reducible rfl
    rotate_left
    ·simp only [Act.put, sA, sZ, sS, i64_w, i32_w]
     rfl
    refine pure_ (i := 98) (N := some 184) (v := ?_) (a' := ?_) (bzA 110 633825300114114700748351602687) rfl rfl (any_of HT_.out (by kernel_rfl)) (fun _ _ _ h => h) (Or.inl ⟨by rfl, ?_⟩) ?_ ?_; rotate_left
    ·intro w'
     go_simp
     with_reducible rfl
    rotate_left
    ·simp only [Act.put, sA, sZ, sS, i64_w, i32_w]
     rfl
    refine pure_ (i := 99) (N := some 185) (v := ?_) (a' := ?_) (bzA 110 1267650600228229401496703205375) rfl rfl (any_of HT_.out (by kernel_rfl)) (fun _ _ _ h => h) (Or.inl ⟨by rfl, ?_⟩) ?_ ?_; rotate_left
    ·intro w'
     go_simp
     with_reducible rfl
    rotate_left
    ·simp only [Act.put, sA, sZ, sS, i64_w, i32_w]
     rfl
    refine pure_ (i := 100) (N := some 186) (v := ?_) (a' := ?_) (bzA 110 2535301200456458802993406410751) rfl rfl (any_of HT_.out (by kernel_rfl)) (fun _ _ _ h => h) (Or.inl ⟨by rfl, ?_⟩) ?_ ?_; rotate_left
    ·intro w'
     go_simp
     with_reducible rfl
    rotate_left
    ·simp only [Act.put, sA, sZ, sS, i64_w, i32_w]
     rfl
    refine pure_ (i := 101) (N := some 187) (v := ?_) (a' := ?_) (bzA 110 5070602400912917605986812821503) rfl rfl (any_of HT_.out (by kernel_rfl)) (fun _ _ _ h => h) (Or.inl ⟨by rfl, ?_⟩) ?_ ?_; rotate_left
    ·intro w'
     go_simp
     with_reducible rfl
    rotate_left
    ·simp only [Act.put, sA, sZ, sS, i64_w, i32_w]
     rfl
    refine take_ (i := 102) (N := some 188) (v := ?_) (a' := ?_) (bzA 110 10141204801825835211973625643007) rfl rfl (take_ofW HT_.out HW_.out (by kernel_rfl)) (fun _ _ _ h => h) (Or.inl ⟨by rfl, ?_⟩) hHeld ?_ ?_; rotate_left
    ·rintro w' ⟨s0, s1, s2, s3, s4, s5, s6, s7⟩
     go_simp
     with_reducible rfl
    rotate_left
    ·simp only [Act.put, sA, sZ, sS, i64_w, i32_w]
     rfl
    refine pure_ (i := 103) (N := some 189) (v := ?_) (a' := ?_) (bzA 110 20282409603651670423947251286015) rfl rfl (any_of HT_.out (by kernel_rfl)) (fun _ _ _ h => h) (Or.inl ⟨by rfl, ?_⟩) ?_ ?_; rotate_left
    ·intro w'
     go_simp
     with_reducible rfl
    rotate_left
    ·simp only [Act.put, sA, sZ, sS, i64_w, i32_w]
     rfl
    refine pure_ (i := 104) (N := some 190) (v := ?_) (a' := ?_) (bzA 110 40564819207303340847894502572031) rfl rfl (any_of HT_.out (by kernel_rfl)) (fun _ _ _ h => h) (Or.inl ⟨by rfl, ?_⟩) ?_ ?_; rotate_left
    ·intro w'
     go_simp
     with_reducible rfl
    rotate_left
    ·simp only [Act.put, sA, sZ, sS, i64_w, i32_w]
     rfl
    refine pure_ (i := 105) (N := some 191) (v := ?_) (a' := ?_) (bzA 110 81129638414606681695789005144063) rfl rfl (any_of HT_.out (by kernel_rfl)) (fun _ _ _ h => h) (Or.inl ⟨by rfl, ?_⟩) ?_ ?_; rotate_left
    ·intro w'
     go_simp
     with_reducible rfl
    rotate_left
    ·simp only [Act.put, sA, sZ, sS, i64_w, i32_w]
     rfl
    refine pure_ (i := 106) (N := some 192) (v := ?_) (a' := ?_) (bzA 110 162259276829213363391578010288127) rfl rfl (any_of HT_.out (by kernel_rfl)) (fun _ _ _ h => h) (Or.inl ⟨by rfl, ?_⟩) ?_ ?_; rotate_left
    ·intro w'
     go_simp
     with_reducible rfl
    rotate_left
    ·simp only [Act.put, sA, sZ, sS, i64_w, i32_w]
     rfl
    exact norm_ (by first | (simp only [putAll, Act.put, sA, sZ, sS]; done) | (simp only [putAll, Act.put, sA, sZ, sS]; rfl)) (hCont.out (_, _, _, _, _, _, _, _, _, _, _, _, _, _, _, _, _, _, _) _ ⟨HR.out, HP.out, HB.out, HX.out⟩)
   ·skip
    refine pure_ (i := 86) (N := some 172) (v := ?_) (a' := ?_) (bzA 110 154742504910672534362390527) rfl rfl (any_of HT_.out (by kernel_rfl)) (fun _ _ _ h => h) (Or.inl ⟨by rfl, ?_⟩) ?_ ?_; rotate_left
    ·intro w'
     go_simp
     with_reducible rfl
    rotate_left
    ·simp only [Act.put, sA, sZ, sS, i64_w, i32_w]
     rfl
    refine take_ (i := 87) (N := some 173) (v := ?_) (a' := ?_) (bzA 110 309485009821345068724781055) rfl rfl (take_ofW HT_.out HW_.out (by kernel_rfl)) (fun _ _ _ h => h) (Or.inl ⟨by rfl, ?_⟩) hHeld ?_ ?_; rotate_left
    ·rintro w' ⟨s0, s1, s2, s3, s4, s5, s6, s7⟩
     go_simp
     with_reducible rfl
    rotate_left
    ·simp only [Act.put, sA, sZ, sS, i64_w, i32_w]
     rfl
    refine pure_ (i := 88) (N := some 174) (v := ?_) (a' := ?_) (bzA 110 618970019642690137449562111) rfl rfl (any_of HT_.out (by kernel_rfl)) (fun _ _ _ h => h) (Or.inl ⟨by rfl, ?_⟩) ?_ ?_; rotate_left
    ·intro w'
     go_simp
     with_reducible rfl
    rotate_left
    ·simp only [Act.put, sA, sZ, sS, i64_w, i32_w]
     rfl
    refine pure_ (i := 89) (N := some 175) (v := ?_) (a' := ?_) (bzA 110 1237940039285380274899124223) rfl rfl (any_of HT_.out (by kernel_rfl)) (fun _ _ _ h => h) (Or.inl ⟨by rfl, ?_⟩) ?_ ?_; rotate_left
    ·intro w'
     go_simp
     with_reducible rfl
    rotate_left
    ·simp only [Act.put, sA, sZ, sS, i64_w, i32_w]
     rfl
    refine pure_ (i := 90) (N := some 176) (v := ?_) (a' := ?_) (bzA 110 2475880078570760549798248447) rfl rfl (any_of HT_.out (by kernel_rfl)) (fun _ _ _ h => h) (Or.inl ⟨by rfl, ?_⟩) ?_ ?_; rotate_left
    ·intro w'
     go_simp
     with_reducible rfl
    rotate_left
    ·simp only [Act.put, sA, sZ, sS, i64_w, i32_w]
     rfl
    refine take_ (i := 91) (N := some 177) (v := ?_) (a' := ?_) (bzA 110 4951760157141521099596496895) rfl rfl (take_ofW HT_.out HW_.out (by kernel_rfl)) (fun _ _ _ h => h) (Or.inl ⟨by rfl, ?_⟩) hHeld ?_ ?_; rotate_left
    ·rintro w' ⟨s0, s1, s2, s3, s4, s5, s6, s7⟩
     go_simp
     with_reducible rfl
    rotate_left
    ·simp only [Act.put, sA, sZ, sS, i64_w, i32_w]
     rfl
    refine pure_ (i := 92) (N := some 178) (v := ?_) (a' := ?_) (bzA 110 9903520314283042199192993791) rfl rfl (any_of HT_.out (by kernel_rfl)) (fun _ _ _ h => h) (Or.inl ⟨by rfl, ?_⟩) ?_ ?_; rotate_left
    ·intro w'
     go_simp
     with_reducible rfl
    rotate_left
    ·simp only [Act.put, sA, sZ, sS, i64_w, i32_w]
     rfl
    refine pure_ (i := 93) (N := some 179) (v := ?_) (a' := ?_) (bzA 110 19807040628566084398385987583) rfl rfl (any_of HT_.out (by kernel_rfl)) (fun _ _ _ h => h) (Or.inl ⟨by rfl, ?_⟩) ?_ ?_; rotate_left
    ·intro w'
     go_simp
     with_reducible rfl
    rotate_left
    ·simp only [Act.put, sA, sZ, sS, i64_w, i32_w]
     rfl
    refine pure_ (i := 94) (N := some 180) (v := ?_) (a' := ?_) (bzA 110 39614081257132168796771975167) rfl rfl (any_of HT_.out (by kernel_rfl)) (fun _ _ _ h => h) (Or.inl ⟨by rfl, ?_⟩) ?_ ?_; rotate_left
    ·intro w'
     go_simp
     with_reducible rfl
    rotate_left
    ·simp only [Act.put, sA, sZ, sS, i64_w, i32_w]
     rfl
    refine pure_ (i := 95) (N := some 181) (v := ?_) (a' := ?_) (bzA 110 79228162514264337593543950335) rfl rfl (any_of HT_.out (by kernel_rfl)) (fun _ _ _ h => h) (Or.inl ⟨by rfl, ?_⟩) ?_ ?_; rotate_left
    ·intro w'
     go_simp
     with_reducible rfl
    rotate_left
    ·simp only [Act.put, sA, sZ, sS, i64_w, i32_w]
     rfl
    refine pure_ (i := 96) (N := some 182) (v := undef) (a' := ?_) (bzA 110 158456325028528675187087900671) rfl rfl (any_of HT_.out (by kernel_rfl)) (fun _ _ _ h => h) (Or.inr ⟨by rfl, rfl⟩) ?_ ?_; rotate_left
    ·simp only [Act.put, sA, sZ, sS, i64_w, i32_w]
     rfl
    refine pure_ (i := 97) (N := some 183) (v := undef) (a' := ?_) (bzA 110 316912650057057350374175801343) rfl rfl (any_of HT_.out (by kernel_rfl)) (fun _ _ _ h => h) (Or.inr ⟨by rfl, rfl⟩) ?_ ?_; rotate_left
    ·simp only [Act.put, sA, sZ, sS, i64_w, i32_w]
     rfl
    refine pure_ (i := 98) (N := some 184) (v := undef) (a' := ?_) (bzA 110 633825300114114700748351602687) rfl rfl (any_of HT_.out (by kernel_rfl)) (fun _ _ _ h => h) (Or.inr ⟨by rfl, rfl⟩) ?_ ?_; rotate_left
    ·simp only [Act.put, sA, sZ, sS, i64_w, i32_w]
     rfl
    refine pure_ (i := 99) (N := some 185) (v := undef) (a' := ?_) (bzA 110 1267650600228229401496703205375) rfl rfl (any_of HT_.out (by kernel_rfl)) (fun _ _ _ h => h) (Or.inr ⟨by rfl, rfl⟩) ?_ ?_; rotate_left
    ·simp only [Act.put, sA, sZ, sS, i64_w, i32_w]
     rfl
    refine pure_ (i := 100) (N := some 186) (v := undef) (a' := ?_) (bzA 110 2535301200456458802993406410751) rfl rfl (any_of HT_.out (by kernel_rfl)) (fun _ _ _ h => h) (Or.inr ⟨by rfl, rfl⟩) ?_ ?_; rotate_left
    ·simp only [Act.put, sA, sZ, sS, i64_w, i32_w]
     rfl
    refine pure_ (i := 101) (N := some 187) (v := undef) (a' := ?_) (bzA 110 5070602400912917605986812821503) rfl rfl (any_of HT_.out (by kernel_rfl)) (fun _ _ _ h => h) (Or.inr ⟨by rfl, rfl⟩) ?_ ?_; rotate_left
    ·simp only [Act.put, sA, sZ, sS, i64_w, i32_w]
     rfl
    refine pure_ (i := 102) (N := some 188) (v := undef) (a' := ?_) (bzA 110 10141204801825835211973625643007) rfl rfl (any_of HT_.out (by kernel_rfl)) (fun _ _ _ h => h) (Or.inr ⟨by rfl, rfl⟩) ?_ ?_; rotate_left
    ·simp only [Act.put, sA, sZ, sS, i64_w, i32_w]
     rfl
    refine pure_ (i := 103) (N := some 189) (v := undef) (a' := ?_) (bzA 110 20282409603651670423947251286015) rfl rfl (any_of HT_.out (by kernel_rfl)) (fun _ _ _ h => h) (Or.inr ⟨by rfl, rfl⟩) ?_ ?_; rotate_left
    ·simp only [Act.put, sA, sZ, sS, i64_w, i32_w]
     rfl
    refine pure_ (i := 104) (N := some 190) (v := ?_) (a' := ?_) (bzA 110 40564819207303340847894502572031) rfl rfl (any_of HT_.out (by kernel_rfl)) (fun _ _ _ h => h) (Or.inl ⟨by rfl, ?_⟩) ?_ ?_; rotate_left
    ·intro w'
     go_simp
     with_reducible rfl
    rotate_left
    ·simp only [Act.put, sA, sZ, sS, i64_w, i32_w]
     rfl
    refine pure_ (i := 105) (N := some 191) (v := ?_) (a' := ?_) (bzA 110 81129638414606681695789005144063) rfl rfl (any_of HT_.out (by kernel_rfl)) (fun _ _ _ h => h) (Or.inl ⟨by rfl, ?_⟩) ?_ ?_; rotate_left
    ·intro w'
     go_simp
     with_reducible rfl
    rotate_left
    ·simp only [Act.put, sA, sZ, sS, i64_w, i32_w]
     rfl
    refine pure_ (i := 106) (N := some 192) (v := ?_) (a' := ?_) (bzA 110 162259276829213363391578010288127) rfl rfl (any_of HT_.out (by kernel_rfl)) (fun _ _ _ h => h) (Or.inl ⟨by rfl, ?_⟩) ?_ ?_; rotate_left
    ·intro w'
     go_simp
     with_reducible rfl
    rotate_left
    ·simp only [Act.put, sA, sZ, sS, i64_w, i32_w]
     rfl
    exact norm_ (by first | (simp only [putAll, Act.put, sA, sZ, sS]; done) | (simp only [putAll, Act.put, sA, sZ, sS]; rfl)) (hCont.out (_, _, _, _, _, _, _, _, _, _, _, _, _, _, _, _, _, _, _) _ ⟨HR.out, HP.out, HB.out, HX.out⟩)
 rintro ⟨u172, u173, u174, u175, u176, u177, u178, u179, u180, u181, u182, u183, u184, u185, u186, u187, u188, u189, u190⟩ wj hF_; have HR2 := aM hF_.1; have HP2 := aM hF_.2.1; have HB2 := aM hF_.2.2.1; have HX2 := aM hF_.2.2.2; clear HR HP HB HX hHeld hF_; have HR := HR2; have HP := HP2; have HB := HB2; have HX := HX2; clear HR2 HP2 HB2 HX2; have hHeld : wj.cell? ⟨gb, 0, none⟩ = some (.slice A0 l.length c0) ∧ wj.cell? ⟨gb, 4, none⟩ = some (.int .u64 nd) ∧ wj.cell? ⟨gx, 0, none⟩ = some (.int .u32 X.f0) ∧ wj.cell? ⟨gx, 2, none⟩ = some (.int .u64 X.f2) ∧ wj.cell? ⟨gx, 3, none⟩ = some (.int .u64 X.f3) ∧ wj.cell? ⟨gx, 4, none⟩ = some (.int .u64 X.f4) ∧ wj.cell? ⟨gx, 5, none⟩ = some (.int .u64 X.f5) ∧ wj.cell? ⟨gx, 6, none⟩ = some (.int .u64 X.f6) := ⟨HR.out.c0, HR.out.c4, (cells_at HX.out).1, (cells_at HX.out).2.2.1, (cells_at HX.out).2.2.2.1, (cells_at HX.out).2.2.2.2.1, (cells_at HX.out).2.2.2.2.2.1, (cells_at HX.out).2.2.2.2.2.2⟩; refine norm_ (a' := ?_) ?_ ?_; rotate_left
 ·simp only [putAll, Act.put, sA, sZ, sS]
  rfl
 refine one_ (i := 107) (N := some 193) (bzA 110 324518553658426726783156020576255) rfl rfl (one_of HT_.out (by kernel_rfl)) (by decide) (fun K hK => ?_); refine Kd.R_lit_step k124 (w0 := _) _ 124 (by rfl) (N := 193) rfl (xs := ([⟨(TW && I2), 5, 0⟩, ⟨(!IN && I3), 4, 8⟩, ⟨(!IM && I4), 4, 16⟩, ⟨((LD || TL) && GT), 3, 32⟩, ⟨((LD || (TL && NZ)) && (OD || BIG)), 3, 48⟩, ⟨(LD && M0), 3, 40⟩, ⟨(LD && AL4), 3, 48⟩, ⟨(LD && (MD || LO)), 3, 16⟩] : List S124)) (inner := [.bool (TW && I2), .int .i64 5, .int .u64 0, .bool (!IN && I3), .int .i64 4, .int .u64 8, .bool (!IM && I4), .int .i64 4, .int .u64 16, .bool ((LD || TL) && GT), .int .i64 3, .int .u64 32, .bool ((LD || (TL && NZ)) && (OD || BIG)), .int .i64 3, .int .u64 48, .bool (LD && M0), .int .i64 3, .int .u64 40, .bool (LD && AL4), .int .i64 3, .int .u64 48, .bool (LD && (MD || LO)), .int .i64 3, .int .u64 16]) (ok := fun _ => True) (okp := fun _ => True) ?hr ?hp (fun _ hk => hk) trivial (Below.refl _ _) (Nat.le_refl _) (by simp [is2L, is3L, is4L]) ?_
 case hr => first | (go_simp; done) | (go_simp; rfl)
 case hp => exact (Reps.c3 (k124_mkM _ _ _ ⟨(TW && I2), 5, 0⟩) (Reps.c3 (k124_mkM _ _ _ ⟨(!IN && I3), 4, 8⟩) (Reps.c3 (k124_mkM _ _ _ ⟨(!IM && I4), 4, 16⟩) (Reps.c3 (k124_mkM _ _ _ ⟨((LD || TL) && GT), 3, 32⟩) (Reps.c3 (k124_mkM _ _ _ ⟨((LD || (TL && NZ)) && (OD || BIG)), 3, 48⟩) (Reps.c3 (k124_mkM _ _ _ ⟨(LD && M0), 3, 40⟩) (Reps.c3 (k124_mkM _ _ _ ⟨(LD && AL4), 3, 48⟩) (Reps.c3 (k124_mkM _ _ _ ⟨(LD && (MD || LO)), 3, 16⟩) (Reps.none _ _)))))))))
 intro v1 w3 ho hb hg_ hnew_; clear hg_ hnew_; have HI := aM (Kd.R_reads ho); clear ho; have HR2 := aM (HR.out.below hb); have HP2 := aM (Kd.R_below HP.out hb); have HB2 := aM (below_step HB.out hb); have HX2 := aM (blk_below HX.out hb); clear HR HP HB HX hb; have HR := HR2; have HP := HP2; have HB := HB2; have HX := HX2; clear HR2 HP2 HB2 HX2; obtain ⟨Ai, ci, rfl, hi1, hi2⟩ := HI.out; clear HI; have HI1 := aM hi1; have HI2_ := aM hi2; clear hi1 hi2; refine hK.out _ _ ⟨HR.out.c0, HR.out.c4, (cells_at HX.out).1, (cells_at HX.out).2.2.1, (cells_at HX.out).2.2.2.1, (cells_at HX.out).2.2.2.2.1, (cells_at HX.out).2.2.2.2.2.1, (cells_at HX.out).2.2.2.2.2.2⟩ (fun hHeld => ?_); clear hK K; refine norm_ (a' := ?_) ?_ ?_; rotate_left
 ·show Act.put _ (some 193) _ = _
  simp only [Act.put, sA, sZ, sS, i64_w, i32_w]
  rfl
 obtain ⟨CK, hCK⟩ : ∃ r, checkV p ([⟨(TW && I2), 5, 0⟩, ⟨(!IN && I3), 4, 8⟩, ⟨(!IM && I4), 4, 16⟩, ⟨((LD || TL) && GT), 3, 32⟩, ⟨((LD || (TL && NZ)) && (OD || BIG)), 3, 48⟩, ⟨(LD && M0), 3, 40⟩, ⟨(LD && AL4), 3, 48⟩, ⟨(LD && (MD || LO)), 3, 16⟩] : List S124) = r := ⟨_, rfl⟩; have HCK := aM hCK; clear hCK; refine one_ (i := 108) (N := some 194) (bzA 110 649037107316853453566312041152511) rfl rfl (one_of HT_.out (by kernel_rfl)) (by decide) (fun K hK => ?_); refine goes_ Tryd.func54 (by kernel_rfl) rfl #[.int .u64 p, .slice Ai 8 ci] (by rfl) rfl rfl (by simp only [List.map_toArray, List.map_cons, List.map_nil]; rfl) ?_
 with_reducible refine (check_at2 p _ CK HCK.out Ai ci _ HI2_.out HI1.out rfl (by simp)).mono ?_
 rintro e w7 ⟨ve, rfl, hE, hb⟩; refine ⟨_, rfl, ?_⟩; clear HI1 HI2_; have HE := aM (ErrAt.lower hE (below_size HB.out)); clear hE; have HR2 := aM (HR.out.below hb); have HP2 := aM (Kd.R_below HP.out hb); have HB2 := aM (below_step HB.out hb); have HX2 := aM (blk_below HX.out hb); clear HR HP HB HX hb; have HR := HR2; have HP := HP2; have HB := HB2; have HX := HX2; clear HR2 HP2 HB2 HX2; refine hK.out _ _ ⟨HR.out.c0, HR.out.c4, (cells_at HX.out).1, (cells_at HX.out).2.2.1, (cells_at HX.out).2.2.2.1, (cells_at HX.out).2.2.2.2.1, (cells_at HX.out).2.2.2.2.2.1, (cells_at HX.out).2.2.2.2.2.2⟩ (fun hHeld => ?_); clear hK K; refine norm_ (a' := ?_) ?_ ?_; rotate_left
 ·show Act.put _ (some 194) _ = _
  simp only [Act.put, sA, sZ, sS, i64_w, i32_w]
  rfl
 refine pure_ (i := 109) (N := some 12) (v := ?_) (a' := ?_) (bzA 110 1298074214633706907132624082305023) rfl rfl (any_of HT_.out (by kernel_rfl)) (fun _ _ _ h => h) (Or.inl ⟨by rfl, ?_⟩) ?_ ?_; rotate_left
 ·intro w'
  go_simp
  with_reducible rfl
 rotate_left
 ·simp only [Act.put, sA, sZ, sS, i64_w, i32_w]
  rfl
 refine done_ (done_of HT_.out (by kernel_rfl)) ?_
 have hck : checkV p (progT l X ps nd) = CK := by
  have h := HCK.out; rw [← HTW.out, ← HI2.out, ← HIN.out, ← HI3.out, ← HIM.out, ← HI4.out, ← HLD.out, ← HTL.out, ← HOD.out, ← hGT, ← hNZ, ← hBIG, ← hM0, ← hAL4, ← hMD, ← hLO, ← HAL.out, ← HUE.out] at h; exact h
 cases CK with
 | some q =>
  have hpv : progV l p ps nd = (some q, ps, nd) := by
   unfold progV
   rw [HXX.out, hck]
  obtain ⟨tE, xE, rfl⟩ := ErrAt.some_form HE.out
  go_wp2
  go_ret
  rw [hpv]; exact ⟨_, _, rfl, HE.out, HR.out, Kd.R_mono HP.out (fun _ _ => trivial), HB.out⟩
 | none =>
  obtain rfl := ErrAt.none_eq HE.out; clear HE hHeld; obtain ⟨x0, x1, x2, x3, x4, x5, x6⟩ := cells_at HX.out; have gc := HR.out.c0; have gp := HR.out.c3; have ge := HR.out.c4; have gfz := blk_frozen HR.out.at_ 4
  cases LD with
  | false =>
   go_wp2
   have hb := below_drew1 (Below.refl w7.heap.size w7); have hgx := Kd.R_away HP.out (fun _ hk => hk); have HR2 := aM (HR.out.below hb); have HP2 := aM (Kd.R_below HP.out hb); have HB2 := aM (below_step HB.out hb); have HX2 := aM (blk_below HX.out hb); clear HR HP HB HX hb; have HR := HR2; have HP := HP2; have HB := HB2; have HX := HX2; clear HR2 HP2 HB2 HX2; obtain ⟨x0, x1, x2, x3, x4, x5, x6⟩ := cells_at HX.out; refine start_ (n := 13) (S := fun w' => w'.cell? ⟨gb, 3, none⟩ = some (.slice AP ps.length cP) ∧ w'.cell? ⟨gx, 0, none⟩ = some (.int .u32 X.f0) ∧ w'.cell? ⟨gx, 1, none⟩ = some (.int .u32 X.f1) ∧ w'.cell? ⟨gx, 2, none⟩ = some (.int .u64 X.f2) ∧ w'.cell? ⟨gx, 3, none⟩ = some (.int .u64 X.f3) ∧ w'.cell? ⟨gx, 4, none⟩ = some (.int .u64 X.f4) ∧ w'.cell? ⟨gx, 5, none⟩ = some (.int .u64 X.f5) ∧ w'.cell? ⟨gx, 6, none⟩ = some (.int .u64 X.f6)) (ds := [12]) #[nn,nn,nn,nn,nn,nn,nn,nn,nn,nn,nn,nn,nn] (by kernel_rfl) rfl (by kernel_rfl) ⟨HR.out.c3, x0, x1, x2, x3, x4, x5, x6⟩ (fun hHeld => ?_); refine with_tabW hprog.tab11 hprog.bits11 (fun HT_ HW_ => ?_); refine pure_ (i := 0) (N := some 210) (v := ?_) (a' := ?_) #[yy,nn,nn,nn,nn,nn,nn,nn,nn,nn,nn,nn,nn] rfl rfl (any_of HT_.out (by kernel_rfl)) (fun _ _ _ h => h) (Or.inl ⟨by rfl, ?_⟩) ?_ ?_; rotate_left
   ·intro w'
    go_simp
    with_reducible rfl
   rotate_left
   ·simp only [Act.put, sA, sZ, sS, i64_w, i32_w]
    rfl
   refine pure_ (i := 1) (N := some 211) (v := ?_) (a' := ?_) #[yy,yy,nn,nn,nn,nn,nn,nn,nn,nn,nn,nn,nn] rfl rfl (any_of HT_.out (by kernel_rfl)) (fun _ _ _ h => h) (Or.inl ⟨by rfl, ?_⟩) ?_ ?_; rotate_left
   ·intro w'
    go_simp
    with_reducible rfl
   rotate_left
   ·simp only [Act.put, sA, sZ, sS, i64_w, i32_w]
    rfl
   refine pure_ (i := 2) (N := some 212) (v := ?_) (a' := ?_) #[yy,yy,yy,nn,nn,nn,nn,nn,nn,nn,nn,nn,nn] rfl rfl (any_of HT_.out (by kernel_rfl)) (fun _ _ _ h => h) (Or.inl ⟨by rfl, ?_⟩) ?_ ?_; rotate_left
   ·intro w'
    go_simp
    with_reducible rfl
   rotate_left
   ·simp only [Act.put, sA, sZ, sS, i64_w, i32_w]
    rfl
   refine pure_ (i := 3) (N := some 213) (v := ?_) (a' := ?_) #[yy,yy,yy,yy,nn,nn,nn,nn,nn,nn,nn,nn,nn] rfl rfl (any_of HT_.out (by kernel_rfl)) (fun _ _ _ h => h) (Or.inl ⟨by rfl, ?_⟩) ?_ ?_; rotate_left
   ·intro w'
    go_simp
    with_reducible rfl
   rotate_left
   ·simp only [Act.put, sA, sZ, sS, i64_w, i32_w]
    rfl
   refine pure_ (i := 4) (N := some 214) (v := ?_) (a' := ?_) #[yy,yy,yy,yy,yy,nn,nn,nn,nn,nn,nn,nn,nn] rfl rfl (any_of HT_.out (by kernel_rfl)) (fun _ _ _ h => h) (Or.inl ⟨by rfl, ?_⟩) ?_ ?_; rotate_left
   ·intro w'
    go_simp
    with_reducible rfl
   rotate_left
   ·simp only [Act.put, sA, sZ, sS, i64_w, i32_w]
    rfl
   refine take_ (i := 5) (N := some 215) (v := ?_) (a' := ?_) #[yy,yy,yy,yy,yy,yy,nn,nn,nn,nn,nn,nn,nn] rfl rfl (take_ofW HT_.out HW_.out (by kernel_rfl)) (fun _ _ _ h => h) (Or.inl ⟨by rfl, ?_⟩) hHeld ?_ ?_; rotate_left
   ·rintro w' ⟨s0, s1, s2, s3, s4, s5, s6, s7⟩
    go_simp
    with_reducible rfl
   rotate_left
   ·simp only [Act.put, sA, sZ, sS, i64_w, i32_w]
    rfl
   refine take_ (i := 6) (N := some 216) (v := ?_) (a' := ?_) #[yy,yy,yy,yy,yy,yy,yy,nn,nn,nn,nn,nn,nn] rfl rfl (take_ofW HT_.out HW_.out (by kernel_rfl)) (fun _ _ _ h => h) (Or.inl ⟨by rfl, ?_⟩) hHeld ?_ ?_; rotate_left
   ·rintro w' ⟨s0, s1, s2, s3, s4, s5, s6, s7⟩
    go_simp
    with_reducible rfl
   rotate_left
   ·simp only [Act.put, sA, sZ, sS, i64_w, i32_w]
    rfl
   refine one_ (i := 7) (N := some 217) #[yy,yy,yy,yy,yy,yy,yy,yy,nn,nn,nn,nn,nn] rfl rfl (one_of HT_.out (by kernel_rfl)) (by decide) (fun K hK => ?_); refine value_ (w1 := ?_) (v := ?_) (by rfl) rfl ?_ ?_; rotate_left 2
   ·go_simp
    constructor
    ·rfl
    ·rfl
   refine hK.out _ _ ⟨(Kd.cell_alloc HR.out.c3), (Kd.cell_alloc x0), (Kd.cell_alloc x1), (Kd.cell_alloc x2), (Kd.cell_alloc x3), (Kd.cell_alloc x4), (Kd.cell_alloc x5), (Kd.cell_alloc x6)⟩ (fun hHeld => ?_); clear hK K; refine norm_ (a' := ?_) ?_ ?_; rotate_left
   ·show Act.put _ (some 217) _ = _
    simp only [Act.put, sA, sZ, sS, i64_w, i32_w]
    rfl
   refine one_ (i := 8) (N := some 218) #[yy,yy,yy,yy,yy,yy,yy,yy,yy,nn,nn,nn,nn] rfl rfl (one_of HT_.out (by kernel_rfl)) (by decide) (fun K hK => ?_); refine Kd.R_append_step k50 (w0 := w0) w0.heap.size (by rfl) (.tmp 215) (.tmp 217) 25 50 (.agg zero50) 48 rfl Tryd.underlying25 info50_ rfl (by decide) (by decide) (.slice AP ps.length cP) ps X [.int .u32 X.f0, .int .u32 X.f1, .int .u64 X.f2, .int .u64 X.f3, .int .u64 X.f4, .int .u64 X.f5, .int .u64 X.f6] (fun _ => True) (fun _ => False) rfl rfl (k50_mkM _ _ _ X) (fun _ hk => hk.elim) (fun _ _ => trivial) (Kd.R_mono HP.out (fun _ _ => trivial)) HB.out (below_size HB.out) (by have := HNN.out.2.1; omega) ?_; intro v1 wa ho hb1 hg hat; have HRa := aM (Rdr.grown HR.out hg (Kd.R_ne HP.out HR.out.at_ (by decide))); have HPa := aM ho; have HBa := aM hb1; obtain ⟨AP2, cP2, rfl⟩ := Kd.R_slice ho; clear ho hb1 hat; have gp3 := HRa.out.c3; have gz3 := blk_frozen HRa.out.at_ 3; refine hK.out _ _ ⟨gp3, (Kd.cell_grown x0 hg hgx), (Kd.cell_grown x1 hg hgx), (Kd.cell_grown x2 hg hgx), (Kd.cell_grown x3 hg hgx), (Kd.cell_grown x4 hg hgx), (Kd.cell_grown x5 hg hgx), (Kd.cell_grown x6 hg hgx)⟩ (fun hHeld => ?_); clear hK K; refine norm_ (a' := ?_) ?_ ?_; rotate_left
   ·show Act.put _ (some 218) _ = _
    simp only [Act.put, sA, sZ, sS, i64_w, i32_w]
    rfl
   refine pure_ (i := 9) (N := some 219) (v := ?_) (a' := ?_) #[yy,yy,yy,yy,yy,yy,yy,yy,yy,yy,nn,nn,nn] rfl rfl (any_of HT_.out (by kernel_rfl)) (fun _ _ _ h => h) (Or.inl ⟨by rfl, ?_⟩) ?_ ?_; rotate_left
   ·intro w'
    go_simp
    with_reducible rfl
   rotate_left
   ·simp only [Act.put, sA, sZ, sS, i64_w, i32_w]
    rfl
   refine pure_ (i := 10) (N := some 220) (v := ?_) (a' := ?_) #[yy,yy,yy,yy,yy,yy,yy,yy,yy,yy,yy,nn,nn] rfl rfl (any_of HT_.out (by kernel_rfl)) (fun _ _ _ h => h) (Or.inl ⟨by rfl, ?_⟩) ?_ ?_; rotate_left
   ·intro w'
    go_simp
    with_reducible rfl
   rotate_left
   ·simp only [Act.put, sA, sZ, sS, i64_w, i32_w]
    rfl
   refine pure_ (i := 11) (N := some 221) (v := ?_) (a' := ?_) #[yy,yy,yy,yy,yy,yy,yy,yy,yy,yy,yy,yy,nn] rfl rfl (any_of HT_.out (by kernel_rfl)) (fun _ _ _ h => h) (Or.inl ⟨by rfl, ?_⟩) ?_ ?_; rotate_left
   ·intro w'
    go_simp
    with_reducible rfl
   rotate_left
   ·simp only [Act.put, sA, sZ, sS, i64_w, i32_w]
    rfl
   refine last_ (i := 12) (N := none) #[yy,yy,yy,yy,yy,yy,yy,yy,yy,yy,yy,yy,yy] rfl rfl (one_of HT_.out (by kernel_rfl)) (by decide) (fun K hK => ?_); refine skip_ (w1 := ?_) (by rfl) rfl ?_ ?_; rotate_left
   ·go_simp
    rfl
   refine hK.out _ _ ?_; clear hK K; refine done_ (done_of HT_.out (by kernel_rfl)) ?_
   go_wp2
   go_ret
   have hpv : progV l p ps nd = (none, ps ++ [X], nd) := by
    unfold progV
    rw [HXX.out, hck]; rw [HLD.out]
    rfl
   rw [hpv]; have HPb := HPa.out; rw [List.length_append, List.length_singleton] at HPb; exact ⟨_, _, rfl, ErrAt.of_none, Rdr.setP HRa.out _, Kd.R_set HPb HRa.out.at_ (by decide) 3 _, below_set HBa.out HGB.out⟩
  | true =>
   obtain ⟨EV, hEV⟩ : ∃ EV, endV X = EV := ⟨_, rfl⟩; have HEV := aM hEV; have hEV2 : Go.bits .andNot .u64 (IntKind.u64.wrap (IntKind.u64.wrap (IntKind.u64.wrap (X.f3 + X.f5) + 4096) - 1)) 4095 = EV := hEV; clear hEV
   go_wp2
   have hne8 : gx ≠ gb := fun h => HNE.out h.symm
   have HR8 := aM (Rdr.setE HR.out EV); have HP8 := aM (Kd.R_set HP.out HR.out.at_ (by decide) 4 (.int .u64 EV)); have HB8 := aM (below_set (j := 4) (v := .int .u64 EV) HB.out HGB.out); have HX8 := aM (blk_far HX.out (p := ⟨gb, 4, none⟩) hne8 (.int .u64 EV)); clear HR HP HB HX x0 x1 x2 x3 x4 x5 x6 gc gp ge gfz hEV2; have HR := HR8; have HP := HP8; have HB := HB8; have HX := HX8; clear HR8 HP8 HB8 HX8; generalize w7.setCell ⟨gb, 4, none⟩ (.int .u64 EV) = w8 at *; have hb := below_drew1 (Below.refl w8.heap.size w8); have hgx := Kd.R_away HP.out (fun _ hk => hk); have HR2 := aM (HR.out.below hb); have HP2 := aM (Kd.R_below HP.out hb); have HB2 := aM (below_step HB.out hb); have HX2 := aM (blk_below HX.out hb); clear HR HP HB HX hb; have HR := HR2; have HP := HP2; have HB := HB2; have HX := HX2; clear HR2 HP2 HB2 HX2; obtain ⟨x0, x1, x2, x3, x4, x5, x6⟩ := cells_at HX.out; refine start_ (n := 13) (S := fun w' => w'.cell? ⟨gb, 3, none⟩ = some (.slice AP ps.length cP) ∧ w'.cell? ⟨gx, 0, none⟩ = some (.int .u32 X.f0) ∧ w'.cell? ⟨gx, 1, none⟩ = some (.int .u32 X.f1) ∧ w'.cell? ⟨gx, 2, none⟩ = some (.int .u64 X.f2) ∧ w'.cell? ⟨gx, 3, none⟩ = some (.int .u64 X.f3) ∧ w'.cell? ⟨gx, 4, none⟩ = some (.int .u64 X.f4) ∧ w'.cell? ⟨gx, 5, none⟩ = some (.int .u64 X.f5) ∧ w'.cell? ⟨gx, 6, none⟩ = some (.int .u64 X.f6)) (ds := [12]) #[nn,nn,nn,nn,nn,nn,nn,nn,nn,nn,nn,nn,nn] (by kernel_rfl) rfl (by kernel_rfl) ⟨HR.out.c3, x0, x1, x2, x3, x4, x5, x6⟩ (fun hHeld => ?_); refine with_tabW hprog.tab11 hprog.bits11 (fun HT_ HW_ => ?_); refine pure_ (i := 0) (N := some 210) (v := ?_) (a' := ?_) #[yy,nn,nn,nn,nn,nn,nn,nn,nn,nn,nn,nn,nn] rfl rfl (any_of HT_.out (by kernel_rfl)) (fun _ _ _ h => h) (Or.inl ⟨by rfl, ?_⟩) ?_ ?_; rotate_left
   ·intro w'
    go_simp
    with_reducible rfl
   rotate_left
   ·simp only [Act.put, sA, sZ, sS, i64_w, i32_w]
    rfl
   refine pure_ (i := 1) (N := some 211) (v := ?_) (a' := ?_) #[yy,yy,nn,nn,nn,nn,nn,nn,nn,nn,nn,nn,nn] rfl rfl (any_of HT_.out (by kernel_rfl)) (fun _ _ _ h => h) (Or.inl ⟨by rfl, ?_⟩) ?_ ?_; rotate_left
   ·intro w'
    go_simp
    with_reducible rfl
   rotate_left
   ·simp only [Act.put, sA, sZ, sS, i64_w, i32_w]
    rfl
   refine pure_ (i := 2) (N := some 212) (v := ?_) (a' := ?_) #[yy,yy,yy,nn,nn,nn,nn,nn,nn,nn,nn,nn,nn] rfl rfl (any_of HT_.out (by kernel_rfl)) (fun _ _ _ h => h) (Or.inl ⟨by rfl, ?_⟩) ?_ ?_; rotate_left
   ·intro w'
    go_simp
    with_reducible rfl
   rotate_left
   ·simp only [Act.put, sA, sZ, sS, i64_w, i32_w]
    rfl
   refine pure_ (i := 3) (N := some 213) (v := ?_) (a' := ?_) #[yy,yy,yy,yy,nn,nn,nn,nn,nn,nn,nn,nn,nn] rfl rfl (any_of HT_.out (by kernel_rfl)) (fun _ _ _ h => h) (Or.inl ⟨by rfl, ?_⟩) ?_ ?_; rotate_left
   ·intro w'
    go_simp
    with_reducible rfl
   rotate_left
   ·simp only [Act.put, sA, sZ, sS, i64_w, i32_w]
    rfl
   refine pure_ (i := 4) (N := some 214) (v := ?_) (a' := ?_) #[yy,yy,yy,yy,yy,nn,nn,nn,nn,nn,nn,nn,nn] rfl rfl (any_of HT_.out (by kernel_rfl)) (fun _ _ _ h => h) (Or.inl ⟨by rfl, ?_⟩) ?_ ?_; rotate_left
   ·intro w'
    go_simp
    with_reducible rfl
   rotate_left
   ·simp only [Act.put, sA, sZ, sS, i64_w, i32_w]
    rfl
   refine take_ (i := 5) (N := some 215) (v := ?_) (a' := ?_) #[yy,yy,yy,yy,yy,yy,nn,nn,nn,nn,nn,nn,nn] rfl rfl (take_ofW HT_.out HW_.out (by kernel_rfl)) (fun _ _ _ h => h) (Or.inl ⟨by rfl, ?_⟩) hHeld ?_ ?_; rotate_left
   ·rintro w' ⟨s0, s1, s2, s3, s4, s5, s6, s7⟩
    go_simp
    with_reducible rfl
   rotate_left
   ·simp only [Act.put, sA, sZ, sS, i64_w, i32_w]
    rfl
   refine take_ (i := 6) (N := some 216) (v := ?_) (a' := ?_) #[yy,yy,yy,yy,yy,yy,yy,nn,nn,nn,nn,nn,nn] rfl rfl (take_ofW HT_.out HW_.out (by kernel_rfl)) (fun _ _ _ h => h) (Or.inl ⟨by rfl, ?_⟩) hHeld ?_ ?_; rotate_left
   ·rintro w' ⟨s0, s1, s2, s3, s4, s5, s6, s7⟩
    go_simp
    with_reducible rfl
   rotate_left
   ·simp only [Act.put, sA, sZ, sS, i64_w, i32_w]
    rfl
   refine one_ (i := 7) (N := some 217) #[yy,yy,yy,yy,yy,yy,yy,yy,nn,nn,nn,nn,nn] rfl rfl (one_of HT_.out (by kernel_rfl)) (by decide) (fun K hK => ?_); refine value_ (w1 := ?_) (v := ?_) (by rfl) rfl ?_ ?_; rotate_left 2
   ·go_simp
    constructor
    ·rfl
    ·rfl
   refine hK.out _ _ ⟨(Kd.cell_alloc HR.out.c3), (Kd.cell_alloc x0), (Kd.cell_alloc x1), (Kd.cell_alloc x2), (Kd.cell_alloc x3), (Kd.cell_alloc x4), (Kd.cell_alloc x5), (Kd.cell_alloc x6)⟩ (fun hHeld => ?_); clear hK K; refine norm_ (a' := ?_) ?_ ?_; rotate_left
   ·show Act.put _ (some 217) _ = _
    simp only [Act.put, sA, sZ, sS, i64_w, i32_w]
    rfl
   refine one_ (i := 8) (N := some 218) #[yy,yy,yy,yy,yy,yy,yy,yy,yy,nn,nn,nn,nn] rfl rfl (one_of HT_.out (by kernel_rfl)) (by decide) (fun K hK => ?_); refine Kd.R_append_step k50 (w0 := w0) w0.heap.size (by rfl) (.tmp 215) (.tmp 217) 25 50 (.agg zero50) 48 rfl Tryd.underlying25 info50_ rfl (by decide) (by decide) (.slice AP ps.length cP) ps X [.int .u32 X.f0, .int .u32 X.f1, .int .u64 X.f2, .int .u64 X.f3, .int .u64 X.f4, .int .u64 X.f5, .int .u64 X.f6] (fun _ => True) (fun _ => False) rfl rfl (k50_mkM _ _ _ X) (fun _ hk => hk.elim) (fun _ _ => trivial) (Kd.R_mono HP.out (fun _ _ => trivial)) HB.out (below_size HB.out) (by have := HNN.out.2.1; omega) ?_; intro v1 wa ho hb1 hg hat; have HRa := aM (Rdr.grown HR.out hg (Kd.R_ne HP.out HR.out.at_ (by decide))); have HPa := aM ho; have HBa := aM hb1; obtain ⟨AP2, cP2, rfl⟩ := Kd.R_slice ho; clear ho hb1 hat; have gp3 := HRa.out.c3; have gz3 := blk_frozen HRa.out.at_ 3; refine hK.out _ _ ⟨gp3, (Kd.cell_grown x0 hg hgx), (Kd.cell_grown x1 hg hgx), (Kd.cell_grown x2 hg hgx), (Kd.cell_grown x3 hg hgx), (Kd.cell_grown x4 hg hgx), (Kd.cell_grown x5 hg hgx), (Kd.cell_grown x6 hg hgx)⟩ (fun hHeld => ?_); clear hK K; refine norm_ (a' := ?_) ?_ ?_; rotate_left
   ·show Act.put _ (some 218) _ = _
    simp only [Act.put, sA, sZ, sS, i64_w, i32_w]
    rfl
   refine pure_ (i := 9) (N := some 219) (v := ?_) (a' := ?_) #[yy,yy,yy,yy,yy,yy,yy,yy,yy,yy,nn,nn,nn] rfl rfl (any_of HT_.out (by kernel_rfl)) (fun _ _ _ h => h) (Or.inl ⟨by rfl, ?_⟩) ?_ ?_; rotate_left
   ·intro w'
    go_simp
    with_reducible rfl
   rotate_left
   ·simp only [Act.put, sA, sZ, sS, i64_w, i32_w]
    rfl
   refine pure_ (i := 10) (N := some 220) (v := ?_) (a' := ?_) #[yy,yy,yy,yy,yy,yy,yy,yy,yy,yy,yy,nn,nn] rfl rfl (any_of HT_.out (by kernel_rfl)) (fun _ _ _ h => h) (Or.inl ⟨by rfl, ?_⟩) ?_ ?_; rotate_left
   ·intro w'
    go_simp
    with_reducible rfl
   rotate_left
   ·simp only [Act.put, sA, sZ, sS, i64_w, i32_w]
    rfl
   refine pure_ (i := 11) (N := some 221) (v := ?_) (a' := ?_) #[yy,yy,yy,yy,yy,yy,yy,yy,yy,yy,yy,yy,nn] rfl rfl (any_of HT_.out (by kernel_rfl)) (fun _ _ _ h => h) (Or.inl ⟨by rfl, ?_⟩) ?_ ?_; rotate_left
   ·intro w'
    go_simp
    with_reducible rfl
   rotate_left
   ·simp only [Act.put, sA, sZ, sS, i64_w, i32_w]
    rfl
   refine last_ (i := 12) (N := none) #[yy,yy,yy,yy,yy,yy,yy,yy,yy,yy,yy,yy,yy] rfl rfl (one_of HT_.out (by kernel_rfl)) (by decide) (fun K hK => ?_); refine skip_ (w1 := ?_) (by rfl) rfl ?_ ?_; rotate_left
   ·go_simp
    rfl
   refine hK.out _ _ ?_; clear hK K; refine done_ (done_of HT_.out (by kernel_rfl)) ?_
   go_wp2
   go_ret
   have hpv : progV l p ps nd = (none, ps ++ [X], EV) := by
    unfold progV
    rw [HXX.out, hck]; rw [HLD.out, HEV.out]
    rfl
   rw [hpv]; have HPb := HPa.out; rw [List.length_append, List.length_singleton] at HPb; exact ⟨_, _, rfl, ErrAt.of_none, Rdr.setP HRa.out _, Kd.R_set HPb HRa.out.at_ (by decide) 3 _, below_set HBa.out HGB.out⟩

end Go.Proofs.YtjohdgejjnbddaaDoor.PHeadNotes
