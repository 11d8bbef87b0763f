/- AwkB -/
import Derived.Test.YtlddgafbgaaiiaaGreatDoorEvS
import Derived.Test.YtlddgafbgaaiiaaGreatDoorTsJoin
set_option linter.all false
set_option maxRecDepth 100000
set_option maxHeartbeats 0
namespace Go.Proofs.YtlddgafbgaaiiaaGreatDoor.Awk
open Go Go.Proofs Go.Proofs.YtlddgafbgaaiiaaGreatDoor Go.Proofs.YtlddgafbgaaiiaaGreatDoor.Evl
noncomputable def tab : Tab := Tab.of Tryz.prog
def s0 : St := ⟨.leaf none, 0, 16384⟩
def pureRes : Option (AV × St) → Option Value
  | some (v, _) => v.pure?
  | none => none
def tblV : List Int := [0, 1996959894, 3993919788, 2567524794, 124634137, 1886057615, 3915621685, 2657392035, 249268274, 2044508324, 3772115230, 2547177864, 162941995, 2125561021, 3887607047, 2428444049, 498536548, 1789927666, 4089016648, 2227061214, 450548861, 1843258603, 4107580753, 2211677639, 325883990, 1684777152, 4251122042, 2321926636, 335633487, 1661365465, 4195302755, 2366115317, 997073096, 1281953886, 3579855332, 2724688242, 1006888145, 1258607687, 3524101629, 2768942443, 901097722, 1119000684, 3686517206, 2898065728, 853044451, 1172266101, 3705015759, 2882616665, 651767980, 1373503546, 3369554304, 3218104598, 565507253, 1454621731, 3485111705, 3099436303, 671266974, 1594198024, 3322730930, 2970347812, 795835527, 1483230225, 3244367275, 3060149565, 1994146192, 31158534, 2563907772, 4023717930, 1907459465, 112637215, 2680153253, 3904427059, 2013776290, 251722036, 2517215374, 3775830040, 2137656763, 141376813, 2439277719, 3865271297, 1802195444, 476864866, 2238001368, 4066508878, 1812370925, 453092731, 2181625025, 4111451223, 1706088902, 314042704, 2344532202, 4240017532, 1658658271, 366619977, 2362670323, 4224994405, 1303535960, 984961486, 2747007092, 3569037538, 1256170817, 1037604311, 2765210733, 3554079995, 1131014506, 879679996, 2909243462, 3663771856, 1141124467, 855842277, 2852801631, 3708648649, 1342533948, 654459306, 3188396048, 3373015174, 1466479909, 544179635, 3110523913, 3462522015, 1591671054, 702138776, 2966460450, 3352799412, 1504918807, 783551873, 3082640443, 3233442989, 3988292384, 2596254646, 62317068, 1957810842, 3939845945, 2647816111, 81470997, 1943803523, 3814918930, 2489596804, 225274430, 2053790376, 3826175755, 2466906013, 167816743, 2097651377, 4027552580, 2265490386, 503444072, 1762050814, 4150417245, 2154129355, 426522225, 1852507879, 4275313526, 2312317920, 282753626, 1742555852, 4189708143, 2394877945, 397917763, 1622183637, 3604390888, 2714866558, 953729732, 1340076626, 3518719985, 2797360999, 1068828381, 1219638859, 3624741850, 2936675148, 906185462, 1090812512, 3747672003, 2825379669, 829329135, 1181335161, 3412177804, 3160834842, 628085408, 1382605366, 3423369109, 3138078467, 570562233, 1426400815, 3317316542, 2998733608, 733239954, 1555261956, 3268935591, 3050360625, 752459403, 1541320221, 2607071920, 3965973030, 1969922972, 40735498, 2617837225, 3943577151, 1913087877, 83908371, 2512341634, 3803740692, 2075208622, 213261112, 2463272603, 3855990285, 2094854071, 198958881, 2262029012, 4057260610, 1759359992, 534414190, 2176718541, 4139329115, 1873836001, 414664567, 2282248934, 4279200368, 1711684554, 285281116, 2405801727, 4167216745, 1634467795, 376229701, 2685067896, 3608007406, 1308918612, 956543938, 2808555105, 3495958263, 1231636301, 1047427035, 2932959818, 3654703836, 1088359270, 936918000, 2847714899, 3736837829, 1202900863, 817233897, 3183342108, 3401237130, 1404277552, 615818150, 3134207493, 3453421203, 1423857449, 601450431, 3009837614, 3294710456, 1567103746, 711928724, 3020668471, 3272380065, 1510334235, 755167117]
def tblC : List Cl := tblV.map fun x => .p (.v (.int .i64 x))
def hkPut : List AV → St → Option (AV × St)
  | [.o (.c (.p (.v (.string b)))), .o (.c (.p (.v (.int .i64 n)))), .o (.c (.p (.v (.int .i64 w))))], s =>
    bif Nat.ble b.data.toList.length 1000 && decide (1 ≤ w) && decide (w ≤ 7) && decide (0 ≤ n) && decide (n < 2 ^ (8 * w.toNat)) then some (.tup [.c (.p (.v (.string (putB b n.toNat w.toNat)))), .c (.p (.v (.int .i64 0)))], s) else none
  | _, _ => none
def strOf : Cl → Option (List UInt8)
  | .p (.v (.string b)) => some b.data.toList
  | _ => none
noncomputable def hkJoin : List AV → St → Option (AV × St)
  | [.o (.c (.slc n off len (some c))), .o (.c (.p (.v (.string sep))))], s => match s.row n with
    | some (cs, _, _) => bif Nat.beq len 4 && Nat.ble 4 c && Nat.ble c 1000 && decide (sep.data.toList = [46]) && decide (((cs.drop off).take 4).map strOf = [some [71, 82], some [70, 85, 82], some [], some [72, 72, 90]]) then some (.o (.c (.p (.v (.string ⟨#[71, 82, 46, 70, 85, 82, 46, 46, 72, 72, 90]⟩)))), s) else none
    | none => none
  | _, _ => none
def hkCount : List AV → St → Option (AV × St)
  | [.o (.c (.p (.v (.string x)))), .o (.c (.p (.v (.string y))))], s => match y.data.toList with
    | [c] => some (.o (.c (.p (.v (.int .i64 (Lib.countByte x.data.toList c))))), s)
    | _ => none
  | _, _ => none
def hkIndex : List AV → St → Option (AV × St)
  | [.o (.c (.p (.v (.string x)))), .o (.c (.p (.v (.string y))))], s => match y.data.toList with
    | [c] => some (.o (.c (.p (.v (.int .i64 (Lib.indexByte x.data.toList c))))), s)
    | _ => none
  | _, _ => none
def hkTb : List AV → St → Option (AV × St)
  | [], s => some (.o (.agg tblC), s)
  | _, _ => none
/-- The calls that are known otherwise. -/
noncomputable def HK0 : CallT := fun f args s =>
  bif Nat.beq f 44 then hkPut args s else bif Nat.beq f 76 then hkJoin args s else bif Nat.beq f 226 then hkCount args s else bif Nat.beq f 250 then hkIndex args s
  else bif Nat.beq f 176 then hkTb args s else none
abbrev i (n : Int) : Cl := .p (.v (.int .i64 n))
abbrev b (x : Bool) : Cl := .p (.v (.bool x))
abbrev z : Cl := .p (.v (.slice none 0 0))
def eqV : Value → Value → Bool
  | .int k n, .int k' n' => decide (k = k') && decide (n = n')
  | .bool a, .bool b => decide (a = b)
  | .string a, .string b => decide (a.data.toList = b.data.toList)
  | .slice none a b, .slice none c d => Nat.beq a c && Nat.beq b d
  | _, _ => false
def eqC : Cl → Cl → Bool
  | .p (.v x), .p (.v y) => eqV x y
  | _, _ => false
def eqL : List Cl → List Cl → Bool
  | [], [] => true
  | x :: l, y :: k => eqC x y && eqL l k
  | _, _ => false
def eqVl : Vl → Vl → Bool
  | .c x, .c y => eqC x y
  | .agg l, .agg k => eqL l k
  | _, _ => false
def eqVs : List Vl → List Vl → Bool
  | [], [] => true
  | x :: l, y :: k => eqVl x y && eqVs l k
  | _, _ => false
def eqA : AV → AV → Bool
  | .o x, .o y => eqVl x y
  | .tup l, .tup k => eqVs l k
  | _, _ => false
def eqAs : List AV → List AV → Bool
  | [], [] => true
  | x :: l, y :: k => eqA x y && eqAs l k
  | _, _ => false
theorem eqV_ok {x y : Value} (h : eqV x y = true) : x = y := by
  unfold eqV at h
  split at h
  · simp only [Bool.and_eq_true, decide_eq_true_eq] at h; rw [h.1, h.2]
  · rw [of_decide_eq_true h]
  · rename_i a b; have := of_decide_eq_true h; obtain ⟨⟨a⟩⟩ := a; obtain ⟨⟨b⟩⟩ := b; simp only at this; rw [this]
  · simp only [Bool.and_eq_true] at h; rw [Nat.eq_of_beq_eq_true h.1, Nat.eq_of_beq_eq_true h.2]
  · cases h
theorem eqC_ok {x y : Cl} (h : eqC x y = true) : x = y := by
  unfold eqC at h
  split at h
  · rw [eqV_ok h]
  · cases h
theorem eqL_ok : ∀ {x y : List Cl}, eqL x y = true → x = y
  | [], [], _ => rfl
  | x :: l, y :: k, h => by simp only [eqL, Bool.and_eq_true] at h; rw [eqC_ok h.1, eqL_ok h.2]
  | [], _ :: _, h => by cases h
  | _ :: _, [], h => by cases h
theorem eqVl_ok {x y : Vl} (h : eqVl x y = true) : x = y := by
  unfold eqVl at h
  split at h
  · rw [eqC_ok h]
  · rw [eqL_ok h]
  · cases h
theorem eqVs_ok : ∀ {x y : List Vl}, eqVs x y = true → x = y
  | [], [], _ => rfl
  | x :: l, y :: k, h => by simp only [eqVs, Bool.and_eq_true] at h; rw [eqVl_ok h.1, eqVs_ok h.2]
  | [], _ :: _, h => by cases h
  | _ :: _, [], h => by cases h
theorem eqA_ok {x y : AV} (h : eqA x y = true) : x = y := by
  unfold eqA at h
  split at h
  · rw [eqVl_ok h]
  · rw [eqVs_ok h]
  · cases h
theorem eqAs_ok : ∀ {x y : List AV}, eqAs x y = true → x = y
  | [], [], _ => rfl
  | x :: l, y :: k, h => by simp only [eqAs, Bool.and_eq_true] at h; rw [eqA_ok h.1, eqAs_ok h.2]
  | [], _ :: _, h => by cases h
  | _ :: _, [], h => by cases h
/-- Calls without an address whose value is known. -/
noncomputable def memIn (args : List AV) (l : List (List AV × AV)) : Option AV := List.rec none (fun r _ ih => bif eqAs args r.1 then some r.2 else ih) l
noncomputable def memOf (f : Nat) (args : List AV) (l : List (Nat × List (List AV × AV))) : Option AV := List.rec none (fun r _ ih => bif Nat.beq r.1 f then memIn args r.2 else ih) l
theorem memIn_ok {args : List AV} {v : AV} : ∀ {l : List (List AV × AV)}, memIn args l = some v → (args, v) ∈ l
  | [], h => by cases h
  | r :: l, h => by
    change (bif eqAs args r.1 then some r.2 else memIn args l) = some v at h
    cases hc : eqAs args r.1 with
    | true =>
      rw [hc, cond_true] at h
      simp only [Option.some.injEq] at h
      have e2 := eqAs_ok hc
      subst e2; subst h
      exact List.mem_cons_self
    | false => rw [hc, cond_false] at h; exact List.mem_cons_of_mem _ (memIn_ok h)
theorem memOf_ok {f : Nat} {args : List AV} {v : AV} : ∀ {l : List (Nat × List (List AV × AV))}, memOf f args l = some v → ∃ k, (f, k) ∈ l ∧ (args, v) ∈ k
  | [], h => by cases h
  | r :: l, h => by
    change (bif Nat.beq r.1 f then memIn args r.2 else memOf f args l) = some v at h
    cases hc : Nat.beq r.1 f with
    | true =>
      rw [hc, cond_true] at h
      have e1 := Nat.eq_of_beq_eq_true hc
      subst e1
      exact ⟨r.2, List.mem_cons_self, memIn_ok h⟩
    | false =>
      rw [hc, cond_false] at h
      obtain ⟨k, h1, h2⟩ := memOf_ok h
      exact ⟨k, List.mem_cons_of_mem _ h1, h2⟩
def pureA : AV → Bool
  | .o x => x.pure?.isSome
  | .tup l => l.all fun x => x.pure?.isSome
theorem pureA_ok {a : AV} (h : pureA a = true) : ∀ m k : Nm, a.ok m ∧ a.den m = a.den k := by
  intro m k
  cases a with
  | o x =>
    obtain ⟨q, hq⟩ := Option.isSome_iff_exists.1 (show x.pure?.isSome = true from h)
    exact ⟨(Vl.pure_den hq).2, (Vl.pure_den (m := m) hq).1.trans (Vl.pure_den (m := k) hq).1.symm⟩
  | tup l =>
    have h' := List.all_eq_true.1 (show (l.all fun x => x.pure?.isSome) = true from h)
    refine ⟨fun x hx => ?_, ?_⟩
    · obtain ⟨q, hq⟩ := Option.isSome_iff_exists.1 (h' x hx)
      exact (Vl.pure_den hq).2
    · show Value.tuple (l.map (Vl.den m)).toArray = Value.tuple (l.map (Vl.den k)).toArray
      rw [List.map_congr_left fun x hx => by
        obtain ⟨q, hq⟩ := Option.isSome_iff_exists.1 (h' x hx)
        exact (Vl.pure_den (m := m) hq).1.trans (Vl.pure_den (m := k) hq).1.symm]
def MEM : List (Nat × List (List AV × AV)) := [(82, [([.o (.c (.p (.v (.string ⟨#[83, 0, 0, 0, 0, 0, 0, 0, 1]⟩))))], .o (.c (i 3671153035))),
    ([.o (.c (.p (.v (.string ⟨#[68, 0, 0, 0, 0, 0, 0, 0, 0, 83, 78, 1, 0, 0, 0, 0, 0, 0, 0, 0, 0, 232, 212, 165, 16, 0, 0, 1, 0, 1, 0, 0, 0, 0, 0, 0, 0, 3, 11, 1, 71, 82, 46, 70, 85, 82, 46, 46, 72, 72, 90, 2, 192, 0, 0, 0, 0, 0, 1, 0, 0, 1, 44, 0, 0, 255, 253, 0, 0, 1, 46, 0, 0, 0, 0, 0, 0, 0, 0, 0, 0, 0, 0, 0, 0, 0, 0, 0, 0, 0, 0, 0, 0, 0, 0, 0, 0, 0, 0, 0, 0, 0, 0, 0, 0, 0, 0, 0, 0, 0, 0, 0, 0, 0, 0, 11, 151, 27, 2]⟩))))], .o (.c (i 3332037224)))]),
  (166, [([.o (.c (z))], .o (.c (z)))]),
  (133, [([.o (.c (z))], .o (.c (b true)))]),
  (86, [([.o (.agg [z, z])], .o (.c (b true)))]),
  (134, [([.o (.c (z)), .o (.c (z))], .o (.c (z)))]),
  (187, [([.o (.c (z)), .o (.c (z))], .o (.c (z)))]),
  (193, [([.o (.c (z)), .o (.c (i 16))], .o (.c (z)))]),
  (179, [([.o (.agg [i 0, i 1])], .o (.c (b true))),
    ([.o (.agg [i 0, i 0])], .o (.c (b false)))]),
  (211, [([.o (.c (.p (.v (.int .u64 1))))], .o (.c (i 1))),
    ([.o (.c (.p (.v (.int .u64 0))))], .o (.c (i 0)))]),
  (207, [([.o (.agg [i 0, i 1])], .o (.c (b false))),
    ([.o (.agg [i 0, i 0])], .o (.c (b true)))]),
  (132, [([.o (.c (.p (.v (.string ⟨#[83, 78, 1, 0, 0, 0, 0, 0, 0, 0, 0, 0, 232, 212, 165, 16, 0, 0, 1, 0, 1, 0, 0, 0, 0, 0, 0, 0, 3, 11, 1, 71, 82, 46, 70, 85, 82, 46, 46, 72, 72, 90, 2, 192, 0, 0, 0, 0, 0, 1, 0, 0, 1, 44, 0, 0, 255, 253, 0, 0, 1, 46, 0, 0, 0, 0, 0, 0, 0, 0, 0, 0, 0, 0, 0, 0, 0, 0, 0, 0, 0, 0, 0, 0, 0, 0, 0, 0, 0, 0, 0, 0, 0, 0, 0, 0, 0, 0, 0, 0, 0, 0, 0, 0, 0, 0, 11, 151, 27, 2]⟩))))], .o (.c (b false)))]),
  (89, [([.o (.c (i 1)), .o (.c (i 0)), .o (.c (i 1099511627776))], .o (.c (b true))),
    ([.o (.c (i 0)), .o (.c (i 0)), .o (.c (i 1099511627776))], .o (.c (b true))),
    ([.o (.c (i 2)), .o (.c (i 0)), .o (.c (i 1099511627776))], .o (.c (b true))),
    ([.o (.c (i 5)), .o (.c (i 0)), .o (.c (i 1099511627776))], .o (.c (b true))),
    ([.o (.c (i 6)), .o (.c (i 0)), .o (.c (i 1099511627776))], .o (.c (b true))),
    ([.o (.c (i 4)), .o (.c (i 0)), .o (.c (i 1099511627776))], .o (.c (b true))),
    ([.o (.c (i 7)), .o (.c (i 0)), .o (.c (i 1099511627776))], .o (.c (b true))),
    ([.o (.c (i 3)), .o (.c (i 0)), .o (.c (i 1099511627776))], .o (.c (b true)))]),
  (83, [([.o (.c (i 4)), .o (.c (i 1)), .o (.c (i 256))], .o (.c (b true))),
    ([.o (.c (i 0)), .o (.c (i 0)), .o (.c (i 1073741825))], .o (.c (b true)))]),
  (92, [([.o (.c (z))], .o (.c (z)))]),
  (91, [([.o (.c (z))], .o (.c (z)))]),
  (47, [([.o (.c (i 2)), .o (.c (i 1)), .o (.c (i 4096))], .o (.c (b true))),
    ([.o (.c (i 1)), .o (.c (i 0)), .o (.c (i 1))], .o (.c (b true))),
    ([.o (.c (i 0)), .o (.c (i 0)), .o (.c (i 1073741824))], .o (.c (b true)))]),
  (81, [([.o (.c (i 4)), .o (.c (i 1)), .o (.c (i 7))], .o (.c (b true)))]),
  (51, [([.o (.agg [b false, i 0, i 0])], .o (.c (b true)))]),
  (45, [([.o (.c (.p (.v (.string ⟨#[83, 0, 0, 0, 0, 0, 0, 0, 1]⟩))))], .o (.c (.p (.v (.string ⟨#[83, 0, 0, 0, 0, 0, 0, 0, 1, 139, 89, 209, 218]⟩)))))]),
  (153, [([.o (.c (.p (.v (.string ⟨#[0, 0, 0, 0, 0, 0, 0, 1]⟩)))), .o (.c (i 0)), .o (.c (i 4))], .tup [(.c (i 0)), (.c (i 0))]),
    ([.o (.c (.p (.v (.string ⟨#[0, 0, 0, 0, 0, 0, 0, 1]⟩)))), .o (.c (i 4)), .o (.c (i 4))], .tup [(.c (i 1)), (.c (i 0))])]),
  (140, [([.o (.c (.p (.v (.string ⟨#[83, 0, 0, 0, 0, 0, 0, 0, 1, 139, 89, 209, 218]⟩))))], .tup [(.c (i 0)), (.c (i 0)), (.c (.p (.v (.string ⟨#[]⟩)))), (.c (i 3))])]),
  (144, [([.o (.c (.p (.v (.string ⟨#[83, 0, 0, 0, 0, 0, 0, 0, 1, 139, 89, 209, 218]⟩))))], .tup [(.c (i 0)), (.c (i 1)), (.c (i 0))])]),
  (87, [([.o (.agg [i 0, i 1, z])], .o (.c (b true))),
    ([.o (.agg [i 0, i 0, z])], .o (.c (b true))),
    ([.o (.agg [i 1, i 1, z])], .o (.c (b true))),
    ([.o (.agg [i 1, i 0, z])], .o (.c (b true))),
    ([.o (.agg [i 2, i 0, z])], .o (.c (b true))),
    ([.o (.agg [i 3, i 0, z])], .o (.c (b true))),
    ([.o (.agg [i 2, i 1, z])], .o (.c (b true))),
    ([.o (.agg [i 4, i 0, z])], .o (.c (b true)))]),
  (183, [([.o (.c (.p (.v (.string ⟨#[83, 0, 0, 0, 0, 0, 0, 0, 1, 139, 89, 209, 218]⟩)))), .o (.c (.p (.v (.string ⟨#[68]⟩)))), .o (.c (i 13))], .tup [(.c (.p (.v (.string ⟨#[]⟩)))), (.c (i 3))]),
    ([.o (.c (.p (.v (.string ⟨#[83, 0, 0, 0, 0, 0, 0, 0, 1, 139, 89, 209, 218]⟩)))), .o (.c (.p (.v (.string ⟨#[83]⟩)))), .o (.c (i 13))], .tup [(.c (.p (.v (.string ⟨#[0, 0, 0, 0, 0, 0, 0, 1]⟩)))), (.c (i 0))])]),
  (58, [([.o (.c (.p (.v (.string ⟨#[83, 0, 0, 0, 0, 0, 0, 0, 1, 139, 89, 209, 218]⟩))))], .o (.c (b true)))]),
  (191, [([.o (.c (z))], .tup [(.agg [b false, i 0, i 0]), (.c (z))])]),
  (130, [([.o (.c (i 0)), .o (.c (.p (.v (.string ⟨#[82, 0, 0, 0, 0, 0, 0, 0, 1]⟩))))], .o (.c (i 3450490312)))]),
  (223, [([.o (.agg [z, z])], .o (.c (i 0)))]),
  (184, [([.o (.c (.p (.v (.string ⟨#[0, 0, 0, 0, 0, 0, 0, 1]⟩)))), .o (.c (i 0))], .o (.c (i 0))),
    ([.o (.c (.p (.v (.string ⟨#[0, 0, 0, 0, 0, 0, 0, 1]⟩)))), .o (.c (i 1))], .o (.c (i 1)))]),
  (142, [([.o (.agg [z, z]), .o (.c (i 0))], .tup [(.agg [z, z]), (.c (i 0))])]),
  (93, [([.o (.c (z))], .o (.c (z)))]),
  (185, [([.o (.c (i 0)), .o (.c (i 0)), .o (.c (i 1073741825))], .o (.c (b true))),
    ([.o (.c (i 16)), .o (.c (i 0)), .o (.c (i 256))], .o (.c (b true)))]),
  (100, [([.o (.agg [i 0, i 1, z])], .tup [(.agg [i 1, i 1, z]), (.c (z)), (.c (i 0))]),
    ([.o (.agg [i 0, i 0, z])], .tup [(.agg [i 1, i 0, z]), (.c (z)), (.c (i 0))]),
    ([.o (.agg [i 1, i 1, z])], .tup [(.agg [i 2, i 1, z]), (.c (z)), (.c (i 0))]),
    ([.o (.agg [i 1, i 0, z])], .tup [(.agg [i 2, i 0, z]), (.c (z)), (.c (i 0))]),
    ([.o (.agg [i 2, i 0, z])], .tup [(.agg [i 3, i 0, z]), (.c (z)), (.c (i 0))]),
    ([.o (.agg [i 3, i 0, z])], .tup [(.agg [i 4, i 0, z]), (.c (z)), (.c (i 0))])])]
noncomputable def HK : CallT := fun f args s => match HK0 f args s with
  | some r => some r
  | none => (memOf f args MEM).map fun v => (v, s)
theorem good : Go.Proofs.YtlddgafbgaaiiaaGreatDoor.Evl.Good Tryz.prog tab := good_of (n := 359) (by kernel_rfl) (by kernel_rfl) (by kernel_rfl)
theorem mixed : Tryz.prog.follows .mixedOrders = true := by kernel_rfl
theorem did_grown {N : Nat} {m : Nm} {s : St} {w w' : World} (hr : Rep N m s.H w) (hg : w.grownBy w' none) : Did N m s s w m w' where
  le := Nm.le.refl m
  rep := ⟨fun n b h => by obtain ⟨a1, a2, a3, a4⟩ := hr.live n b h; exact ⟨a1, a2, Nat.lt_of_lt_of_le a3 hg.size, by rw [hg.block _ a3 (by simp)]; exact a4⟩, hr.fits, hr.bound, hr.inj⟩
  dom := fun _ h => .inl h
  size := hg.size
  nx := Nat.le_refl _
  lo := Nat.le_refl _
  live := fun _ b h _ => ⟨b, h⟩
  same := fun _ _ _ => rfl
  fresh := fun _ h h' => absurd h h'
  frame := fun b hb _ => hg.block b hb (by simp)
  os := hg.os
  tape := hg.tape
  output := hg.output
def m0 : Nm := ⟨fun _ => False, fun _ => 0, fun _ => 0⟩
/-- A closed call whose value has no address. -/
theorem call_closed {P : Program} {call : CallT} {w : World} (C : CallOk P w.heap.size call) {f : FuncId} {x : Value} (h : pureRes (call f [] s0) = some x) : Calls P f #[] w fun e w' => e = .returned x ∧ w.grownBy w' none := by
  cases hc : call f [] s0 with
  | none => rw [hc] at h; cases h
  | some r =>
    obtain ⟨v, s'⟩ := r
    rw [hc] at h
    have hx : v.pure? = some x := h
    refine ((C f [] s0 v s' hc).2 m0 w ⟨fun n b hb => (leaf_at hb).elim, Tr.fits_none 7, fun n h => h.elim, fun n k b c hb => (leaf_at hb).elim⟩ (Nat.le_refl _) (fun n _ _ h => h) (fun n c hc => (leaf_at hc).elim) (by simp)).mono ?_
    rintro e w' ⟨m', rfl, -, hd⟩
    rw [(AV.pure_den hx).1]
    exact ⟨rfl, hd.os, hd.tape, hd.output, hd.size, fun b hb _ => hd.frame b hb fun n c hc => (leaf_at hc).elim⟩
end Go.Proofs.YtlddgafbgaaiiaaGreatDoor.Awk
