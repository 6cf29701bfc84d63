import Derived.Test.YtgojkabjgagjcaaEu
set_option linter.unusedSimpArgs false
set_option linter.unusedVariables false
set_option linter.unusedSectionVars false
set_option maxRecDepth 20000
namespace Go.Proofs.Ytgojkabjgagjcaa
attribute [local irreducible] QOp aL aC qL
/-! All but two or three points are apart: the rows are told by a list, for each order of those two or three points, and each way of the others to be above or below them. -/
def hrT : List (Nat × List Nat) := [
  (8192, [1062180, 2363475]), (8193, [16915, 201280]), (8194, [262705, 78340]),
  (8195, [4345875, 3413280]), (8208, [132145, 2162755]), (8209, [3231810, 2299200]),
  (8210, [33, 528]), (8211, [4202545, 2110480]), (8224, [9235, 2101300]),
  (8225, [18, 513]), (8226, [3477540, 2176260]), (8227, [4325395, 2294785]),
  (12288, [3440375276665, 4894423583365, 6976153127545]), (12289, [68723102278, 276491741008, 344674408288]), (12290, [4302525028, 18791737093, 22551860998]),
  (12291, [105324853, 1665226528, 1698899728]), (12292, [1896044068, 342040693, 1949438053]), (12293, [26844013333, 13965021808, 31679783248]),
  (12294, [413397951313, 207233634823, 482652397828]), (12295, [8010790994230, 7162217734720, 11649918641680]), (12304, [2267816166261, 3644045920356, 5773275957366]),
  (12305, [68824871541, 276793747536, 413729429616]), (12306, [8515, 805315600, 805315600]), (12307, [100933971, 1375946256, 1409492496]),
  (12308, [1612727601, 338698341, 1663045716]), (12309, [22116041076, 27685651776, 27186635136]), (12310, [536871235, 805323280, 1073754640]),
  (12311, [7714432680291, 5525240775696, 7723761021456]), (12320, [1375201166706, 3463086868551, 5785858869366]), (12321, [95563560741, 284280579456, 434868721776]),
  (12322, [543179601, 17986233861, 17987278341]), (12323, [26661619476, 9503343696, 31763671056]), (12324, [9235, 3154240, 3154240]),
  (12325, [25770075411, 8595390816, 25774203216]), (12326, [2098195, 3162400, 4207120]), (12327, [7731010668051, 5506256306496, 7722439815696]),
  (12336, [1305675330658, 3437585499988, 4604742862693]), (12337, [6825375827860, 5923875694480, 6981539732080]), (12338, [268436290, 536888080, 805315600]),
  (12339, [13271106658, 18555827728, 27179296528]), (12340, [1049650, 2113840, 3154240]), (12341, [30116480578, 8662511968, 30153056608]),
  (12342, [561, 12816, 12816]), (12343, [6614367208273, 4419555324688, 7722435359248]), (12352, [2203385758551, 3321922390086, 5515576936551]),
  (12353, [8500, 805315585, 805315585]), (12354, [4404294231, 19093743621, 27182372871]), (12355, [104866101, 1378895361, 1412441601]),
  (12356, [1610761491, 335749206, 1661079621]), (12357, [536871220, 805323265, 1073754625]), (12358, [344243503431, 414230742276, 413729759496]),
  (12359, [7972135633206, 5911790781441, 8110315942401]), (12544, [1117497230631, 3720783923316, 5785857886326]), (12545, [537281301, 275683288656, 275683350096]),
  (12546, [417693972306, 155425662216, 503588198406]), (12547, [206550074406, 345262622496, 482735237136]), (12548, [9265, 205060, 205060]),
  (12549, [262675, 82720, 274960]), (12550, [412321064241, 137442443526, 412322308356]), (12551, [6872067736341, 5909932770336, 9277235540496]),
  (12576, [1113738737188, 3650990638948, 4613063313253]), (12577, [91000079908, 284273243728, 361582696288]), (12578, [348704998978, 155425207813, 430304139013]),
  (12579, [6902435678245, 5920420636720, 10477124135440]), (12580, [786, 12816, 12816]), (12581, [262930, 82720, 274960]),
  (12582, [2098195, 3162640, 4207120]), (12583, [6597139432723, 4398136783648, 7696687575568]), (12592, [138512721201, 3436242273876, 3436242273876]),
  (12593, [4561524229971, 3583613437776, 6958652463216]), (12594, [268436530, 536888080, 805315600]), (12595, [6614652487506, 3317090977296, 7723760691216]),
  (12596, [801, 12816, 12816]), (12597, [132145, 213520, 274960]), (12598, [801, 12816, 12816]),
  (12599, [6597137007921, 3298602344976, 6597153927696]), (12608, [1112396887078, 3308735498053, 4411468351318]), (12609, [268436260, 536888065, 805315585]),
  (12610, [6954233694025, 5730595284745, 7239237769735]), (12611, [206549550118, 276256814593, 413729302273]), (12612, [66595, 147715, 205060]),
  (12613, [531, 12801, 12801]), (12614, [481091978788, 137509564678, 481124622598]), (12615, [6872067212053, 4741683770113, 8108986348033]),
  (12640, [9663702291, 3307393254981, 3307393254981]), (12641, [268436515, 536888065, 805315585]), (12642, [4819230132021, 3454765401861, 6958654429191]),
  (12643, [6872353474341, 3574795896321, 8110310696961]), (12644, [786, 12801, 12801]), (12645, [786, 12801, 12801]),
  (12646, [2098195, 3162625, 4207105]), (12647, [6597138973971, 3298607260161, 6597157859841]), (12800, [2203385758551, 4410972374406, 4423868811096]),
  (12801, [8980, 3153985, 3153985]), (12802, [6439251, 17181123846, 17183151366]), (12803, [4194610, 1065475, 4206850]),
  (12804, [27934340391, 8933040261, 31745773656]), (12805, [26843554581, 9400500321, 27115135041]), (12806, [495271871076, 228708483591, 576872194311]),
  (12807, [6906851623221, 5920348209201, 9304243442436]), (12864, [1099562316358, 3320043341383, 4410965034583]), (12865, [291, 12546, 12546]),
  (12866, [4386390598, 17214698758, 21545227783]), (12867, [4194595, 1065475, 4206850]), (12868, [23370859558, 8925704278, 27162447943]),
  (12869, [536871220, 805323010, 1073754370]), (12870, [8127028200025, 6903389790985, 8412050170120]), (12871, [6872491884853, 4743255585283, 8110244638978]),
  (13120, [8590222101, 3307124884806, 3307124884806]), (13121, [531, 12546, 12546]), (13122, [4406745564471, 3315749782791, 6618614994696]),
  (13123, [2097940, 3162370, 4206850]), (13124, [66340, 147715, 205060]), (13125, [531, 12546, 12546]),
  (13126, [7146895901991, 4535572922631, 6940742852871]), (13127, [6871949771541, 3573418057986, 6940671357186]), (13312, [1099582308951, 3710890608516, 5772488542086]),
  (13313, [2507061, 274881127776, 274881189216]), (13314, [9025, 204820, 204820]), (13315, [262435, 82480, 274720]),
  (13316, [414485329266, 137778126936, 482717339781]), (13317, [237566952006, 357562417776, 508152717696]), (13318, [413390611281, 138244603926, 413659242516]),
  (13319, [6902549840181, 5924639048256, 9304241615136]), (13328, [1099567231588, 3642166871668, 4604239545973]), (13329, [68806967908, 274914702688, 343667775088]),
  (13330, [306, 12576, 12576]), (13331, [262450, 82480, 274720]), (13332, [345496355938, 137777672293, 413711470708]),
  (13333, [7998170333845, 7096670200720, 8154352132480]), (13334, [536871235, 805323040, 1073754400]), (13335, [6614786965843, 4421132055088, 7723693650208]),
  (13360, [137443173201, 3435974886756, 3435974886756]), (13361, [4535587702131, 3573452735856, 6940737542016]), (13362, [561, 12576, 12576]),
  (13363, [131905, 213280, 274720]), (13364, [1049410, 2113840, 3154240]), (13365, [6631497860466, 3307197661536, 7722439483776]),
  (13366, [561, 12576, 12576]), (13367, [6614249767761, 3315715105056, 6618544877856]), (13824, [1099562316358, 3298574795893, 4398099006838]),
  (13825, [1049140, 2113585, 3153985]), (13826, [66115, 147475, 204820]), (13827, [291, 12321, 12321]),
  (13828, [6977763738745, 5712680362105, 7238152491175]), (13829, [237566427718, 284278419553, 434868592753]), (13830, [495263482468, 155424485398, 503585120278]),
  (13831, [6902549315893, 4751844470833, 8131446845473]), (13840, [37773651, 3298569487461, 3298569487461]), (13841, [1049155, 2113585, 3153985]),
  (13842, [306, 12321, 12321]), (13843, [306, 12321, 12321]), (13844, [4812545459061, 3436315705461, 6941793325191]),
  (13845, [6907113767541, 4751045460081, 6959997657201]), (13846, [536871235, 805322785, 1073754145]), (13847, [6614786507091, 3317056954401, 6619618357281]),
  (13888, [33841461, 3298568504406, 3298568504406]), (13889, [291, 12306, 12306]), (13890, [66100, 147475, 204820]),
  (13891, [291, 12306, 12306]), (13892, [4425997419351, 3307460788311, 6619668811896]), (13893, [536871220, 805322770, 1073754130]),
  (13894, [7164810822231, 4557766033431, 6959994707991]), (13895, [6872484544821, 3574754992146, 6941740904466])]
def hrP (m s d k e : Nat) : Nat := (((hrT.lookup (m * 4096 + s * 8 + d)).getD []).getD k 0) / 16 ^ e % 16
def hrL (m s i j : Nat) : Bool := s.testBit (m * i + j)
def hrV (m s : Nat) : Bool := (List.range m).all fun i => !hrL m s i i && (List.range m).all fun j => (List.range m).all fun k => !(hrL m s i j && hrL m s j k) || hrL m s i k
def hrO (m s d t : Nat) : Bool := (List.range m).all fun i => (List.range m).all fun j =>
  (!(t.testBit i && !d.testBit i && hrL m s i j) || (t.testBit j && !d.testBit j)) &&
  (!(t.testBit i && d.testBit i && hrL m s j i) || (t.testBit j && d.testBit j)) &&
  (!(t.testBit j && d.testBit j && (t.testBit i && !d.testBit i)) || hrL m s j i)
def hrAl (m s d x y : Nat) : Bool := (List.range m).all fun k => decide (hrP m s d k x < hrP m s d k y)
def hrEx (m s d x y : Nat) : Bool := (List.range m).any fun k => decide (hrP m s d k x < hrP m s d k y)
def hrA (m s d : Nat) : Bool := (List.range m).all fun i => (List.range m).all fun j => if hrL m s i j then hrAl m s d i j else hrL m s j i || decide (i = j) || hrEx m s d i j
def hrB (m s d : Nat) : Bool := (List.range (2 ^ m)).all fun t => !hrO m s d t || (List.range m).all fun i =>
  if t.testBit i then if d.testBit i then hrAl m s d i (m + t) else hrAl m s d (m + t) i
  else hrEx m s d i (m + t) && hrEx m s d (m + t) i
def hrC (m s d : Nat) : Bool := (List.range (2 ^ m)).all fun t => !hrO m s d t || (List.range (2 ^ m)).all fun u => !hrO m s d u || decide (t = u) || hrEx m s d (m + t) (m + u)
def hrK (m : Nat) : Bool := (List.range (2 ^ (m * m))).all fun s => !hrV m s || (List.range (2 ^ m)).all fun d => hrA m s d && hrB m s d && hrC m s d
set_option maxRecDepth 100000 in
theorem hr_2 : hrK 2 = true := by decide +kernel
set_option maxRecDepth 100000 in
theorem hr_3 : hrK 3 = true := by decide +kernel
/-- The points that stand aside, the others apart. -/
structure Asd (n : Nat) (ns : List Nat) (m : Nat) (X : List Nat) : Prop where
  len : X.length = m
  inn : ∀ i, i < m → X.getD i 0 < n
  inj : ∀ i j, i < m → j < m → X.getD i 0 = X.getD j 0 → i = j
  ap : ∀ a b, a < n → b < n → a ∉ X → b ∉ X → lt ns a b = false
theorem hr_all {m : Nat} (hm : m = 2 ∨ m = 3) {s d : Nat} (hs : s < 2 ^ (m * m)) (hd : d < 2 ^ m) (hv : hrV m s = true) : hrA m s d = true ∧ hrB m s d = true ∧ hrC m s d = true := by
  have h : hrK m = true := by rcases hm with rfl | rfl; exact hr_2; exact hr_3
  have h1 := List.all_eq_true.1 h s (List.mem_range.2 hs)
  rw [hv] at h1
  have h2 := List.all_eq_true.1 (by simpa using h1 : ((List.range (2 ^ m)).all fun d => hrA m s d && hrB m s d && hrC m s d) = true) d (List.mem_range.2 hd)
  rw [Bool.and_eq_true, Bool.and_eq_true] at h2
  exact ⟨h2.1.1, h2.1.2, h2.2⟩
theorem hrAl_iff {m s d x y : Nat} : hrAl m s d x y = true ↔ ∀ k, k < m → hrP m s d k x < hrP m s d k y := by
  unfold hrAl
  rw [List.all_eq_true]
  exact ⟨fun h k hk => of_decide_eq_true (h k (List.mem_range.2 hk)), fun h k hk => decide_eq_true (h k (List.mem_range.1 hk))⟩
theorem hrEx_iff {m s d x y : Nat} : hrEx m s d x y = true ↔ ∃ k, k < m ∧ hrP m s d k x < hrP m s d k y := by
  unfold hrEx
  rw [List.any_eq_true]
  exact ⟨fun ⟨k, hk, h⟩ => ⟨k, List.mem_range.1 hk, of_decide_eq_true h⟩, fun ⟨k, hk, h⟩ => ⟨k, List.mem_range.2 hk, decide_eq_true h⟩⟩
section
variable {n : Nat} {ns : List Nat} {m : Nat} {X : List Nat}
def asS (ns : List Nat) (m : Nat) (X : List Nat) : Nat := bs (fun c => lt ns (X.getD (c / m) 0) (X.getD (c % m) 0)) (m * m)
def asD (n : Nat) (ns : List Nat) (m : Nat) (X : List Nat) : Nat := bs (fun i => (List.range n).any fun a => !X.contains a && lt ns (X.getD i 0) a) m
def asT (ns : List Nat) (m : Nat) (X : List Nat) (a : Nat) : Nat := bs (fun i => lt ns a (X.getD i 0) || lt ns (X.getD i 0) a) m
theorem as_L {i j : Nat} (hi : i < m) (hj : j < m) : hrL m (asS ns m X) i j = lt ns (X.getD i 0) (X.getD j 0) := by
  unfold hrL asS
  have hm : 0 < m := by omega
  have h1 : m * i + j < m * m := by
    have : m * (i + 1) ≤ m * m := Nat.mul_le_mul_left m hi
    rw [Nat.mul_succ] at this
    omega
  rw [bs_bit, decide_eq_true h1, Bool.true_and, Nat.mul_add_div hm, Nat.div_eq_of_lt hj, Nat.mul_add_mod, Nat.mod_eq_of_lt hj, Nat.add_zero]
theorem as_V (hv : Vld n ns) (hok : okB n ns = true) : hrV m (asS ns m X) = true := by
  unfold hrV
  rw [List.all_eq_true]
  intro i hi
  have hi := List.mem_range.1 hi
  rw [as_L hi hi, Bool.and_eq_true]
  constructor
  · cases hq : lt ns (X.getD i 0) (X.getD i 0)
    · rfl
    · rw [okB_irr hok (vldR hv hq)] at hq; cases hq
  · rw [List.all_eq_true]
    intro j hj
    rw [List.all_eq_true]
    intro k hk
    have hj := List.mem_range.1 hj
    have hk := List.mem_range.1 hk
    rw [as_L hi hj, as_L hj hk, as_L hi hk]
    cases h1 : lt ns (X.getD i 0) (X.getD j 0)
    · rfl
    · cases h2 : lt ns (X.getD j 0) (X.getD k 0)
      · rfl
      · rw [okB_tr hok (vldR hv h2) (vldR hv h1) h2 h1]; rfl
theorem as_D {i : Nat} (hi : i < m) : (asD n ns m X).testBit i = true ↔ ∃ a, a < n ∧ a ∉ X ∧ lt ns (X.getD i 0) a = true := by
  unfold asD
  rw [bs_bit, decide_eq_true hi, Bool.true_and, List.any_eq_true]
  constructor
  · rintro ⟨a, ha, h⟩
    rw [Bool.and_eq_true, Bool.not_eq_true'] at h
    refine ⟨a, List.mem_range.1 ha, fun hm => ?_, h.2⟩
    rw [List.contains_iff_mem.2 hm] at h
    exact Bool.noConfusion h.1
  · rintro ⟨a, ha, h1, h2⟩
    refine ⟨a, List.mem_range.2 ha, ?_⟩
    rw [Bool.and_eq_true, Bool.not_eq_true', h2]
    refine ⟨?_, rfl⟩
    cases hq : X.contains a
    · rfl
    · exact absurd (List.contains_iff_mem.1 hq) h1
theorem as_T {a i : Nat} (hi : i < m) : (asT ns m X a).testBit i = (lt ns a (X.getD i 0) || lt ns (X.getD i 0) a) := by
  unfold asT
  rw [bs_bit, decide_eq_true hi, Bool.true_and]
theorem Asd.up (h : Asd n ns m X) (hv : Vld n ns) (hok : okB n ns = true) {a i : Nat} (ha : a ∉ X) (hi : i < m) (hl : lt ns a (X.getD i 0) = true) : (asD n ns m X).testBit i = false := by
  cases hq : (asD n ns m X).testBit i
  · rfl
  · obtain ⟨b, hb, h1, h2⟩ := (as_D hi).1 hq
    have := okB_tr hok hb (vldR hv hl) h2 hl
    rw [h.ap a b (vldA hv hl) hb ha h1] at this; cases this
theorem Asd.dn (hv : Vld n ns) {a i : Nat} (ha : a ∉ X) (hi : i < m) (hl : lt ns (X.getD i 0) a = true) : (asD n ns m X).testBit i = true := (as_D hi).2 ⟨a, vldR hv hl, ha, hl⟩
theorem Asd.tU (h : Asd n ns m X) (hv : Vld n ns) (hok : okB n ns = true) {a i : Nat} (ha : a ∉ X) (hi : i < m) : ((asT ns m X a).testBit i && !(asD n ns m X).testBit i) = lt ns a (X.getD i 0) := by
  rw [as_T hi]
  cases h1 : lt ns a (X.getD i 0)
  · cases h2 : lt ns (X.getD i 0) a
    · rfl
    · rw [Asd.dn hv ha hi h2]; rfl
  · rw [h.up hv hok ha hi h1]; rfl
theorem Asd.tD (h : Asd n ns m X) (hv : Vld n ns) (hok : okB n ns = true) {a i : Nat} (ha : a ∉ X) (hi : i < m) : ((asT ns m X a).testBit i && (asD n ns m X).testBit i) = lt ns (X.getD i 0) a := by
  rw [as_T hi]
  cases h2 : lt ns (X.getD i 0) a
  · cases h1 : lt ns a (X.getD i 0)
    · rfl
    · rw [h.up hv hok ha hi h1]; rfl
  · rw [Asd.dn hv ha hi h2]; simp
theorem Asd.tO (h : Asd n ns m X) (hv : Vld n ns) (hok : okB n ns = true) {a : Nat} (ha : a ∉ X) : hrO m (asS ns m X) (asD n ns m X) (asT ns m X a) = true := by
  have otr : ∀ {a b c}, lt ns a b = true → lt ns b c = true → lt ns a c = true := fun {a b c} h1 h2 => okB_tr hok (vldR hv h2) (vldR hv h1) h2 h1
  unfold hrO
  rw [List.all_eq_true]
  intro i hi
  rw [List.all_eq_true]
  intro j hj
  have hi := List.mem_range.1 hi
  have hj := List.mem_range.1 hj
  rw [h.tU hv hok ha hi, h.tU hv hok ha hj, h.tD hv hok ha hi, h.tD hv hok ha hj, as_L hi hj, as_L hj hi]
  have e1 := fun q => otr (a := a) (b := X.getD i 0) (c := X.getD j 0) q
  have e2 := fun q => otr (a := X.getD j 0) (b := X.getD i 0) (c := a) q
  have e3 := fun q => otr (a := X.getD j 0) (b := a) (c := X.getD i 0) q
  generalize lt ns a (X.getD i 0) = p1 at *
  generalize lt ns a (X.getD j 0) = p2 at *
  generalize lt ns (X.getD i 0) a = p3 at *
  generalize lt ns (X.getD j 0) a = p4 at *
  generalize lt ns (X.getD i 0) (X.getD j 0) = p5 at *
  generalize lt ns (X.getD j 0) (X.getD i 0) = p6 at *
  cases p1 <;> cases p2 <;> cases p3 <;> cases p4 <;> cases p5 <;> cases p6 <;> simp at * 
/-- The place of a point in the list. -/
def asCe (ns : List Nat) (m : Nat) (X : List Nat) (a : Nat) : Nat := if X.contains a = true then X.idxOf a else m + asT ns m X a
def asK (n : Nat) (ns : List Nat) (m : Nat) (X : List Nat) (k a : Nat) : Nat := hrP m (asS ns m X) (asD n ns m X) k (asCe ns m X a) * 16 + if k = 1 then 9 - a else a
theorem asCe_in {a : Nat} (h : a ∈ X) : asCe ns m X a = X.idxOf a := by unfold asCe; rw [if_pos (List.contains_iff_mem.2 h)]
theorem asCe_out {a : Nat} (h : a ∉ X) : asCe ns m X a = m + asT ns m X a := by
  unfold asCe; rw [if_neg fun q => h (List.contains_iff_mem.1 q)]
theorem Asd.idx (h : Asd n ns m X) {a : Nat} (ha : a ∈ X) : X.idxOf a < m ∧ X.getD (X.idxOf a) 0 = a := ⟨by
  have := List.idxOf_lt_length_iff.2 ha
  rwa [h.len] at this, idxOf_get ha⟩
theorem Asd.cvb (h : Asd n ns m X) (hm : m = 2 ∨ m = 3) (hn : n ≤ 10) (hv : Vld n ns) (hok : okB n ns = true) : Cvb n ns m := by
  obtain ⟨hA, hB, hC⟩ := hr_all hm (s := asS ns m X) (d := asD n ns m X) (bs_lt _ _) (bs_lt _ _) (as_V hv hok)
  have hT : ∀ a, asT ns m X a < 2 ^ m := fun a => bs_lt _ _
  have hA' : ∀ i j, i < m → j < m → (if lt ns (X.getD i 0) (X.getD j 0) = true then hrAl m (asS ns m X) (asD n ns m X) i j else lt ns (X.getD j 0) (X.getD i 0) || decide (i = j) || hrEx m (asS ns m X) (asD n ns m X) i j) = true := fun i j hi hj => by
    have := List.all_eq_true.1 (List.all_eq_true.1 hA i (List.mem_range.2 hi)) j (List.mem_range.2 hj)
    rwa [as_L hi hj, as_L hj hi] at this
  have hB' : ∀ a, a ∉ X → ∀ i, i < m → (if (asT ns m X a).testBit i = true then if (asD n ns m X).testBit i = true then hrAl m (asS ns m X) (asD n ns m X) i (m + asT ns m X a) else hrAl m (asS ns m X) (asD n ns m X) (m + asT ns m X a) i
      else hrEx m (asS ns m X) (asD n ns m X) i (m + asT ns m X a) && hrEx m (asS ns m X) (asD n ns m X) (m + asT ns m X a) i) = true := fun a ha i hi => by
    have := List.all_eq_true.1 hB (asT ns m X a) (List.mem_range.2 (hT a))
    simp only [h.tO hv hok ha, Bool.not_true, Bool.false_or] at this
    exact List.all_eq_true.1 this i (List.mem_range.2 hi)
  have hC' : ∀ a b, a ∉ X → b ∉ X → asT ns m X a ≠ asT ns m X b → hrEx m (asS ns m X) (asD n ns m X) (m + asT ns m X a) (m + asT ns m X b) = true := fun a b ha hb hne => by
    have := List.all_eq_true.1 hC (asT ns m X a) (List.mem_range.2 (hT a))
    simp only [h.tO hv hok ha, Bool.not_true, Bool.false_or] at this
    have := List.all_eq_true.1 this (asT ns m X b) (List.mem_range.2 (hT b))
    simp only [h.tO hv hok hb, decide_eq_false hne, Bool.not_true, Bool.false_or] at this
    exact this
  have hm2 : 2 ≤ m := by omega
  -- the keys rise
  have key : ∀ k, k < m → ∀ a b, lt ns a b = true → hrP m (asS ns m X) (asD n ns m X) k (asCe ns m X a) < hrP m (asS ns m X) (asD n ns m X) k (asCe ns m X b) := fun k hk a b hab => by
    by_cases ha : a ∈ X <;> by_cases hb : b ∈ X
    · obtain ⟨i1, i2⟩ := h.idx ha
      obtain ⟨j1, j2⟩ := h.idx hb
      have := hA' _ _ i1 j1
      rw [i2, j2, if_pos hab] at this
      rw [asCe_in ha, asCe_in hb]
      exact hrAl_iff.1 this k hk
    · obtain ⟨i1, i2⟩ := h.idx ha
      have := hB' b hb _ i1
      have hl : lt ns (X.getD (X.idxOf a) 0) b = true := by rw [i2]; exact hab
      rw [as_T i1, hl, Bool.or_true, if_pos rfl, Asd.dn hv hb i1 hl, if_pos rfl] at this
      rw [asCe_in ha, asCe_out hb]
      exact hrAl_iff.1 this k hk
    · obtain ⟨j1, j2⟩ := h.idx hb
      have := hB' a ha _ j1
      have hl : lt ns a (X.getD (X.idxOf b) 0) = true := by rw [j2]; exact hab
      rw [as_T j1, hl, Bool.true_or, if_pos rfl, h.up hv hok ha j1 hl, if_neg (by decide)] at this
      rw [asCe_out ha, asCe_in hb]
      exact hrAl_iff.1 this k hk
    · rw [h.ap a b (vldA hv hab) (vldR hv hab) ha hb] at hab; cases hab
  have lift : ∀ k a b, a < n → b < n → hrP m (asS ns m X) (asD n ns m X) k (asCe ns m X a) < hrP m (asS ns m X) (asD n ns m X) k (asCe ns m X b) → asK n ns m X k a < asK n ns m X k b := fun k a b ha hb h => by
    unfold asK
    split <;> omega
  have one : ∀ k : Nat, ∃ r, RowI n ns r ∧ (k < m → ∀ a b, ApP n ns (a, b) → asK n ns m X k a < asK n ns m X k b → ahd r (a, b) = true) := fun k => by
    by_cases hk : k < m
    · obtain ⟨r, h1, h2⟩ := key_row hv (asK n ns m X k) fun a b hab => lift k a b (vldA hv hab) (vldR hv hab) (key k hk a b hab)
      exact ⟨r, h1, fun _ => h2⟩
    · exact ⟨_, nth0 hv hok, fun h => absurd h hk⟩
  obtain ⟨f, hf⟩ := Classical.axiomOfChoice one
  refine ⟨(List.range m).map f, by rw [List.length_map, List.length_range], ⟨fun r hr => ?_, fun p hp => ?_⟩⟩
  · obtain ⟨i, _, rfl⟩ := List.mem_map.1 hr
    exact (hf i).1
  obtain ⟨a, b⟩ := p
  have hp := apL_mem.1 hp
  have n1 : lt ns a b = false := hp.no
  have n2 : lt ns b a = false := hp.no2
  have hab : a ≠ b := hp.ne
  have han : a < n := hp.l
  have hbn : b < n := hp.r
  suffices hs : ∃ k, k < m ∧ asK n ns m X k a < asK n ns m X k b by
    obtain ⟨k, hk, h1⟩ := hs
    exact ⟨f k, List.mem_map.2 ⟨k, List.mem_range.2 hk, rfl⟩, (hf k).2 hk a b hp h1⟩
  suffices hs : (∃ k, k < m ∧ hrP m (asS ns m X) (asD n ns m X) k (asCe ns m X a) < hrP m (asS ns m X) (asD n ns m X) k (asCe ns m X b)) ∨ asCe ns m X a = asCe ns m X b by
    rcases hs with ⟨k, hk, h1⟩ | h1
    · exact ⟨k, hk, lift k a b han hbn h1⟩
    · rcases Nat.lt_or_ge a b with q | q
      · refine ⟨0, by omega, ?_⟩
        unfold asK
        rw [h1, if_neg (by decide), if_neg (by decide)]
        omega
      · refine ⟨1, by omega, ?_⟩
        unfold asK
        rw [h1, if_pos rfl, if_pos rfl]
        omega
  by_cases ha : a ∈ X <;> by_cases hb : b ∈ X
  · left
    obtain ⟨i1, i2⟩ := h.idx ha
    obtain ⟨j1, j2⟩ := h.idx hb
    have := hA' _ _ i1 j1
    rw [i2, j2, if_neg (by rw [n1]; decide), n2, Bool.false_or, decide_eq_false (fun e => hab (by rw [← i2, ← j2, e])), Bool.false_or] at this
    rw [asCe_in ha, asCe_in hb]
    exact hrEx_iff.1 this
  · left
    obtain ⟨i1, i2⟩ := h.idx ha
    have := hB' b hb _ i1
    rw [as_T i1, i2, n1, n2, Bool.or_false, if_neg (by decide), Bool.and_eq_true] at this
    rw [asCe_in ha, asCe_out hb]
    exact hrEx_iff.1 this.1
  · left
    obtain ⟨j1, j2⟩ := h.idx hb
    have := hB' a ha _ j1
    rw [as_T j1, j2, n1, n2, Bool.or_false, if_neg (by decide), Bool.and_eq_true] at this
    rw [asCe_out ha, asCe_in hb]
    exact hrEx_iff.1 this.2
  · rw [asCe_out ha, asCe_out hb]
    by_cases e : asT ns m X a = asT ns m X b
    · exact .inr (by rw [e])
    · exact .inl (hrEx_iff.1 (hC' a b ha hb e))
end
/-- Some points are put aside, as many as are wanted, and the others are apart. -/
theorem asd_ex {n : Nat} {ns : List Nat} {m S : Nat} (hmn : m ≤ n) (hA : ∀ a b, a < n → b < n → S.testBit a = true → S.testBit b = true → lt ns a b = false) (hS : n ≤ m + ((List.range n).filter fun a => S.testBit a).length) : ∃ X, Asd n ns m X := by
  have hsplit : ∀ l : List Nat, (l.filter fun a => S.testBit a).length + (l.filter fun a => !S.testBit a).length = l.length := fun l => by
    induction l with
    | nil => rfl
    | cons x l ih =>
      rw [List.filter_cons, List.filter_cons]
      cases S.testBit x <;> simp <;> omega
  have h1 := hsplit (List.range n)
  rw [List.length_range] at h1
  have hnd : ((List.range n).filter fun a => !S.testBit a).Nodup := List.nodup_range.filter _
  have hnd2 : (((List.range n).filter fun a => S.testBit a).take (m - ((List.range n).filter fun a => !S.testBit a).length)).Nodup := (List.nodup_range.filter _).sublist (List.take_sublist _ _)
  have hlen : (((List.range n).filter fun a => !S.testBit a) ++ ((List.range n).filter fun a => S.testBit a).take (m - ((List.range n).filter fun a => !S.testBit a).length)).length = m := by
    rw [List.length_append, List.length_take]; omega
  have hN : (((List.range n).filter fun a => !S.testBit a) ++ ((List.range n).filter fun a => S.testBit a).take (m - ((List.range n).filter fun a => !S.testBit a).length)).Nodup := by
    rw [List.nodup_append]
    refine ⟨hnd, hnd2, fun x hx y hy e => ?_⟩
    subst e
    have h2 := (List.mem_filter.1 hx).2
    have h3 := (List.mem_filter.1 (List.mem_of_mem_take hy)).2
    rw [h3] at h2; cases h2
  have hin : ∀ x, x < n → x ∉ ((List.range n).filter fun a => !S.testBit a) ++ ((List.range n).filter fun a => S.testBit a).take (m - ((List.range n).filter fun a => !S.testBit a).length) → S.testBit x = true := fun x hx hno => by
    cases hq : S.testBit x
    · exact absurd (List.mem_append_left _ (List.mem_filter.2 ⟨List.mem_range.2 hx, by rw [hq]; rfl⟩)) hno
    · rfl
  have hlt : ∀ x ∈ ((List.range n).filter fun a => !S.testBit a) ++ ((List.range n).filter fun a => S.testBit a).take (m - ((List.range n).filter fun a => !S.testBit a).length), x < n := fun x hx => by
    rcases List.mem_append.1 hx with hx | hx
    · exact List.mem_range.1 (List.mem_filter.1 hx).1
    · exact List.mem_range.1 (List.mem_filter.1 (List.mem_of_mem_take hx)).1
  generalize ((List.range n).filter fun a => !S.testBit a) ++ ((List.range n).filter fun a => S.testBit a).take (m - ((List.range n).filter fun a => !S.testBit a).length) = X at *
  have hg : ∀ i (h : i < X.length), X.getD i 0 = X[i] := fun i h => by rw [List.getD_eq_getElem?_getD, List.getElem?_eq_getElem h]; rfl
  refine ⟨X, hlen, fun i hi => ?_, fun i j hi hj e => ?_, fun a b ha hb h2 h3 => hA a b ha hb (hin a ha h2) (hin b hb h3)⟩
  · rw [hg i (by omega)]; exact hlt _ (List.getElem_mem _)
  · rw [hg i (by omega), hg j (by omega)] at e
    exact (nd_idx hN (show i < X.length by omega)).symm.trans ((congrArg X.idxOf e).trans (nd_idx hN (show j < X.length by omega)))
theorem pc_filter (S : Nat) : ∀ n, pcTo S n = ((List.range n).filter fun a => S.testBit a).length
  | 0 => rfl
  | n + 1 => by
    have ih := pc_filter S n
    show pcTo S n + S / 2 ^ n % 2 = _
    rw [List.range_succ, List.filter_append, List.length_append, ← ih, List.filter_cons, List.filter_nil]
    have hb := Nat.testBit_eq_decide_div_mod_eq (x := S) (i := n)
    cases hq : S.testBit n
    · rw [hq] at hb
      have := of_decide_eq_false hb.symm
      rw [if_neg (by decide), List.length_nil]
      omega
    · rw [hq] at hb
      have := of_decide_eq_true hb.symm
      rw [if_pos rfl, List.length_singleton]
      omega
theorem wdR_le {n : Nat} {ns : List Nat} (hn : n ≤ 10) : pcTo (wdT (cnB ns false) (2 ^ n)) 10 ≤ n := by
  rw [pcTo_10 (wdT_lt _ _ (Nat.pow_pos (by decide))) hn, pc_filter]
  have := List.length_filter_le (fun a => (wdT (cnB ns false) (2 ^ n)).testBit a) (List.range n)
  rwa [List.length_range] at this
theorem cvb_wd {n : Nat} {ns : List Nat} (hn : n ≤ 10) (hv : Vld n ns) (hok : okB n ns = true) : Cvb n ns (max 1 (pcTo (wdT (cnB ns false) (2 ^ n)) 10)) := by
  have := cvb_width hn hv hok (chs_ptd hn hok)
  rwa [chs_len hn hok] at this
/-- Hiraguchi. -/
theorem hira_m {n : Nat} {ns : List Nat} (hn : n ≤ 10) (hv : Vld n ns) (hok : okB n ns = true) {m : Nat} (hm : m = 2 ∨ m = 3) (hmn : m ≤ n) (hn2 : n ≤ 2 * m + 1) : Cvb n ns m := by
  have hw := cvb_wd hn hv hok
  have hS := wdT_lt (cnB ns false) (2 ^ n) (Nat.pow_pos (by decide))
  have hP := wdT_P (cn_none ns false) (2 ^ n)
  have hpc : pcTo (wdT (cnB ns false) (2 ^ n)) 10 = ((List.range n).filter fun a => (wdT (cnB ns false) (2 ^ n)).testBit a).length := by rw [pcTo_10 hS hn, pc_filter]
  generalize wdT (cnB ns false) (2 ^ n) = S at *
  by_cases hle : pcTo S 10 ≤ m
  · obtain ⟨k, hk⟩ : ∃ k, max 1 (pcTo S 10) = k + 1 := ⟨max 1 (pcTo S 10) - 1, by omega⟩
    obtain ⟨j, hj⟩ : ∃ j, m = j + 1 := ⟨m - 1, by omega⟩
    rw [hk] at hw
    rw [hj]
    exact hw.up (by omega)
  · have hpn := p2_10 hn
    obtain ⟨X, hX⟩ := asd_ex (ns := ns) (m := m) (S := S) hmn (fun a b ha hb h1 h2 => (anti_all hok (by omega) hS).1 hP a ha b hb h1 h2) (by omega)
    exact hX.cvb hm hn hv hok
theorem hira_3 {n : Nat} {ns : List Nat} (hn : n ≤ 7) (hv : Vld n ns) (hok : okB n ns = true) : Cvb n ns 3 := by
  by_cases h3 : 3 ≤ n
  · exact hira_m (by omega) hv hok (.inr rfl) h3 (by omega)
  · have hw := cvb_wd (by omega) hv hok
    have := wdR_le (ns := ns) (show n ≤ 10 by omega)
    obtain ⟨k, hk⟩ : ∃ k, max 1 (pcTo (wdT (cnB ns false) (2 ^ n)) 10) = k + 1 := ⟨max 1 (pcTo (wdT (cnB ns false) (2 ^ n)) 10) - 1, by omega⟩
    rw [hk] at hw
    exact hw.up (by omega)
end Go.Proofs.Ytgojkabjgagjcaa
