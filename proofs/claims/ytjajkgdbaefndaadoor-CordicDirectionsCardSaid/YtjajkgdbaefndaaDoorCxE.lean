/- Proved here: certificates on the powers of one rational number of length 1 (it turns by about 10 to the -9 degrees); no program in sight; no conditions. -/
import Derived.Test.YtjajkgdbaefndaaDoorCx
namespace Cx
theorem div_eq {x M : Rat} (hM : 0 < M) : ∃ X, x / M = X ∧ x = X * M := ⟨x / M, rfl, (Rat.div_mul_cancel (by grind)).symm⟩
theorem le_inv {a M : Rat} (hM : 0 < M) (h : a * (M * M) ≤ M) : a ≤ 1 / M := by
  obtain ⟨I, hI, hI2⟩ := div_eq (x := 1) hM
  rw [hI]
  have hMM : 0 < M * M := Rat.mul_pos hM hM
  refine Rat.le_of_mul_le_mul_right (c := M * M) ?_ hMM
  have : I * (M * M) = M := by grind
  grind
theorem ns_le {a z : C} {e : Rat} (h : Cl a z e) (hz : ns z = 1) : ns a ≤ (e + 1) * (e + 1) := by
  have t := tri h.1 (y := 1) (by grind) h.2 (b := z) (by grind)
  have : add (sub a z) z = a := by simp only [add, sub]; ext <;> simp <;> grind
  rwa [this] at t
theorem ok_core {M x y e x' y' e' x2 y2 e2 : Rat} {z w : C} (hz : ns z = 1) (hw : ns w = 1) (hM : 0 < M) (h : Cl ⟨x / M, y / M⟩ z (e / M)) (g : Cl ⟨x' / M, y' / M⟩ w (e' / M))
    (k1 : x2 * M - (x * x' - y * y') ≤ M) (k2 : (x * x' - y * y') - x2 * M ≤ M) (k3 : y2 * M - (x * y' + y * x') ≤ M) (k4 : (x * y' + y * x') - y2 * M ≤ M)
    (k5 : M * (e + e' + 2) + e * e' ≤ M * e2) : Cl ⟨x2 / M, y2 / M⟩ (mul z w) (e2 / M) := by
  obtain ⟨I, hI, hI2⟩ := div_eq (x := 1) hM
  obtain ⟨X, hX, rfl⟩ := div_eq (x := x) hM
  obtain ⟨Y, hY, rfl⟩ := div_eq (x := y) hM
  obtain ⟨X', hX', rfl⟩ := div_eq (x := x') hM
  obtain ⟨Y', hY', rfl⟩ := div_eq (x := y') hM
  obtain ⟨X2, hX2, rfl⟩ := div_eq (x := x2) hM
  obtain ⟨Y2, hY2, rfl⟩ := div_eq (x := y2) hM
  obtain ⟨E, hE, rfl⟩ := div_eq (x := e) hM
  obtain ⟨E', hE', rfl⟩ := div_eq (x := e') hM
  obtain ⟨E2, hE2, rfl⟩ := div_eq (x := e2) hM
  rw [hX, hY, hE] at h
  rw [hX', hY', hE'] at g
  rw [hX2, hY2, hE2]
  have I0 : 0 ≤ I := by
    have : 0 < M⁻¹ := Rat.inv_pos.mpr hM
    rw [Rat.div_def] at hI; grind
  have c1 := le_inv hM (a := X2 - (X * X' - Y * Y')) (by grind)
  have c2 := le_inv hM (a := (X * X' - Y * Y') - X2) (by grind)
  have c3 := le_inv hM (a := Y2 - (X * Y' + Y * X')) (by grind)
  have c4 := le_inv hM (a := (X * Y' + Y * X') - Y2) (by grind)
  rw [hI] at c1 c2 c3 c4
  have q0 : Cl ⟨X2, Y2⟩ (mul ⟨X, Y⟩ ⟨X', Y'⟩) (2 * I) :=
    Cl.of_parts (p := I) (q := I) c1 c2 c3 c4 (by grind) (by have := sq_nn I; grind)
  have q1 := h.mul_right ⟨X', Y'⟩ (r := E' + 1) (by have := g.1; grind) (ns_le g hw)
  have q2 := g.mul_left z (r := 1) (by grind) (by rw [hz]; grind)
  have q := (q0.trans q1).trans q2
  refine q.mono ?_
  have k6 : (E + E' + 2 * I + E * E') * (M * M) ≤ E2 * (M * M) := by
    have : 2 * I * (M * M) = 2 * M := by grind
    grind
  have := Rat.le_of_mul_le_mul_right k6 (Rat.mul_pos hM hM)
  grind
def wN : C := ⟨mkRat 1606938044258990275541839717010962784181371629485251176675047 1606938044258990275542084467671362420863034358080334493927705, mkRat 28046359747877743733408499281319257695423094063104 1606938044258990275542084467671362420863034358080334493927705⟩
theorem ns_w : ns wN = 1 := by decide +kernel
theorem w_near : Cl wN one (175 / 10000000000000) := by unfold Cl; decide +kernel
abbrev MM : Int := 1267650600228229401496703205376
/-- the whole numbers x, y over MM are the n-th power of wN up to e over MM -/
def Ok (n : Nat) (x y e : Int) : Prop := Cl ⟨x / MM, y / MM⟩ (pw wN n) (e / MM)
theorem ok_add {n m k : Nat} {x y e x' y' e' x2 y2 e2 : Int} (h : Ok n x y e) (g : Ok m x' y' e')
    (hc : x2 * MM - (x * x' - y * y') ≤ MM ∧ (x * x' - y * y') - x2 * MM ≤ MM ∧ y2 * MM - (x * y' + y * x') ≤ MM ∧ (x * y' + y * x') - y2 * MM ≤ MM ∧ MM * (e + e' + 2) + e * e' ≤ MM * e2) (hk : n + m = k) : Ok k x2 y2 e2 := by
  obtain ⟨h1, h2, h3, h4, h5⟩ := hc
  have hM : (0 : Rat) < MM := by decide +kernel
  have k1 : (x2 : Rat) * MM - (x * x' - y * y') ≤ MM := by exact_mod_cast h1
  have k2 : ((x : Rat) * x' - y * y') - x2 * MM ≤ MM := by exact_mod_cast h2
  have k3 : (y2 : Rat) * MM - (x * y' + y * x') ≤ MM := by exact_mod_cast h3
  have k4 : ((x : Rat) * y' + y * x') - y2 * MM ≤ MM := by exact_mod_cast h4
  have k5 : (MM : Rat) * (e + e' + 2) + e * e' ≤ MM * e2 := by exact_mod_cast h5
  have r := ok_core (ns_pw wN ns_w n) (ns_pw wN ns_w m) hM h g k1 k2 k3 k4 k5
  subst hk; unfold Ok; rw [pw_add]; exact r
theorem u_of {n : Nat} {m x y e : Int} {b g d f : Rat} (h : Ok n x y e) (hm : m = n) (hg : 0 ≤ g) (hd : Cl ⟨1, b⟩ (sc g ⟨x / MM, y / MM⟩) d) (hf : d + g * (e / MM) ≤ f) : Cl ⟨1, b⟩ (sc g (E wN m)) f := by
  subst hm
  rw [E_nat]
  exact (hd.trans (h.sc hg)).mono hf
theorem q_of {n : Nat} {m x y e : Int} {d f : Rat} {c : C} (h : Ok n x y e) (hm : m = n) (hd : Cl ⟨x / MM, y / MM⟩ c d) (hf : e / MM + d ≤ f) : Cl (E wN m) c f := by
  subst hm
  rw [E_nat]
  exact (h.symm.trans hd).mono hf
theorem s0 : Ok 1 1267650600228229401496510131148 (22124676738864985354) 1 := by
  have : pw wN 1 = wN := one_mul wN
  unfold Ok Cl; rw [this]; decide +kernel
theorem s1 : Ok 2 (1267650600228229401495930908465) (44249353477729970708) 5 := ok_add s0 s0 (by decide +kernel) (by decide +kernel)
theorem s2 : Ok 4 (1267650600228229401493614017734) (88498706955459941416) 13 := ok_add s1 s1 (by decide +kernel) (by decide +kernel)
theorem s3 : Ok 8 (1267650600228229401484346454811) (176997413910919882832) 29 := ok_add s2 s2 (by decide +kernel) (by decide +kernel)
theorem s4 : Ok 16 (1267650600228229401447276203124) (353994827821839765661) 61 := ok_add s3 s3 (by decide +kernel) (by decide +kernel)
theorem s5 : Ok 32 (1267650600228229401298995196384) (707989655643679531294) 125 := ok_add s4 s4 (by decide +kernel) (by decide +kernel)
theorem s6 : Ok 64 (1267650600228229400705871169439) (1415979311287359062367) 253 := ok_add s5 s5 (by decide +kernel) (by decide +kernel)
theorem s7 : Ok 128 (1267650600228229398333375061688) (2831958622574718122967) 509 := ok_add s6 s6 (by decide +kernel) (by decide +kernel)
theorem s8 : Ok 256 (1267650600228229388843390630746) (5663917245149436231800) 1021 := ok_add s7 s7 (by decide +kernel) (by decide +kernel)
theorem s9 : Ok 512 (1267650600228229350883452907100) (11327834490298872350529) 2045 := ok_add s8 s8 (by decide +kernel) (by decide +kernel)
theorem s10 : Ok 1024 (1267650600228229199043702012759) (22655668980597743796489) 4093 := ok_add s9 s9 (by decide +kernel) (by decide +kernel)
theorem s11 : Ok 2048 (1267650600228228591684698435883) (45311337961195480356428) 8189 := ok_add s10 s10 (by decide +kernel) (by decide +kernel)
theorem s12 : Ok 4096 (1267650600228226162248684129355) (90622675922390902820460) 16381 := ok_add s11 s11 (by decide +kernel) (by decide +kernel)
theorem s13 : Ok 8192 (1267650600228216444504626905209) (181245351844781342501750) 32765 := ok_add s12 s12 (by decide +kernel) (by decide +kernel)
theorem s14 : Ok 16384 (1267650600228177573528398012772) (362490703689558979890139) 65533 := ok_add s13 s13 (by decide +kernel) (by decide +kernel)
theorem s15 : Ok 32768 (1267650600228022089623482454796) (724981407379088318873393) 131069 := ok_add s14 s14 (by decide +kernel) (by decide +kernel)
theorem s16 : Ok 65536 (1267650600227400154003820302061) (1449962814757939510491710) 262141 := ok_add s15 s15 (by decide +kernel) (by decide +kernel)
theorem s17 : Ok 131072 (1267650600224912411525172739432) (2899925629513982002942810) 524285 := ok_add s16 s16 (by decide +kernel) (by decide +kernel)
theorem s18 : Ok 262144 (1267650600214961441610598825149) (5799851259012787861560756) 1048573 := ok_add s17 s17 (by decide +kernel) (by decide +kernel)
theorem s19 : Ok 524288 (1267650600175157561952563674232) (11599702517904166568523078) 2097149 := ok_add s18 s18 (by decide +kernel) (by decide +kernel)
theorem s20 : Ok 1048576 (1267650600015942043324589422993) (23199405034837059900273934) 4194301 := ok_add s19 s19 (by decide +kernel) (by decide +kernel)
theorem s21 : Ok 2097152 (1267650599379079968879350562880) (46398810061903933906858073) 8388605 := ok_add s20 s20 (by decide +kernel) (by decide +kernel)
theorem s22 : Ok 4194304 (1267650596831631672164918451644) (92797620061646380679812689) 16777213 := ok_add s21 s21 (by decide +kernel) (by decide +kernel)
theorem s23 : Ok 8388608 (1267650586641838502371549286030) (185595239626000864788072529) 33554429 := ok_add s22 s22 (by decide +kernel) (by decide +kernel)
theorem s24 : Ok 16777216 (1267650545882666096227792372455) (371190475273666572993307865) 67108861 := ok_add s23 s23 (by decide +kernel) (by decide +kernel)
theorem s25 : Ok 33554432 (1267650382845980840128175634393) (742380918720652404990620566) 134217725 := ok_add s24 s24 (by decide +kernel) (by decide +kernel)
theorem s26 : Ok 67108864 (1267649730699309711333025207083) (1484761582827875255347098660) 268435453 := ok_add s25 s25 (by decide +kernel) (by decide +kernel)
theorem s27 : Ok 134217728 (1267647122113743525603899443183) (2969521128748838020235350012) 536870909 := ok_add s26 s26 (by decide +kernel) (by decide +kernel)
theorem s28 : Ok 268435456 (1267636687789372041023219831097) (5939025962259142399829716616) 1073741821 := ok_add s27 s27 (by decide +kernel) (by decide +kernel)
theorem s29 : Ok 536870912 (1267594950778177411284025604975) (11877921563146535627418001639) 2147483645 := ok_add s28 s28 (by decide +kernel) (by decide +kernel)
theorem s30 : Ok 1073741824 (1267428007314007043511190303334) (23754800252487575050419621403) 4294967293 := ok_add s29 s29 (by decide +kernel) (by decide +kernel)
theorem s31 : Ok 2147483648 (1266760306743677762132598452198) (47501258063905001560786581046) 8589934589 := ok_add s30 s30 (by decide +kernel) (by decide +kernel)
theorem s32 : Ok 4294967296 (1264090676827810610474772529161) (94935794176895947329203840805) 17179869181 := ok_add s31 s31 (by decide +kernel) (by decide +kernel)
theorem s33 : Ok 8589934592 (1253430901181228163517461886369) (189338374934941579925315718063) 34359738365 := ok_add s32 s32 (by decide +kernel) (by decide +kernel)
theorem s34 : Ok 17179869184 (1211090819139418002768918355886) (374428994677500620757585685759) 68719476733 := ok_add s33 s33 (by decide +kernel) (by decide +kernel)
theorem s35 : Ok 34359738368 (1046458621886622444844353919335) (715445593276065424501986378660) 137438953469 := ok_add s34 s34 (by decide +kernel) (by decide +kernel)
theorem s36 : Ok 68719476736 (460074132633791494323801633516) (1181215406579280402427191861433) 274877906941 := ok_add s35 s35 (by decide +kernel) (by decide +kernel)
theorem t0_0 : Ok 33280 (1267650600228015560514194008737) (736309241869385309721044) 133117 := ok_add s9 s15 (by decide +kernel) (by decide +kernel)
theorem t0_1 : Ok 98816 (1267650600226344108536352217494) (2186272056626598560101687) 395261 := ok_add t0_0 s16 (by decide +kernel) (by decide +kernel)
theorem t0_2 : Ok 360960 (1267650600203073350767406691504) (7986123315607877906074677) 1443837 := ok_add t0_1 s18 (by decide +kernel) (by decide +kernel)
theorem t0_3 : Ok 1409536 (1267650599844631121988008940767) (31185528348647156595782648) 5638141 := ok_add t0_2 s20 (by decide +kernel) (by decide +kernel)
theorem t0_4 : Ok 3506688 (1267650597854022516044226084524) (77584338375620584094841149) 14026749 := ok_add t0_3 s21 (by decide +kernel) (by decide +kernel)
theorem t0_5 : Ok 37061120 (1267650335035648357332955158970) (819965242401353257465587328) 148244477 := ok_add t0_4 s25 (by decide +kernel) (by decide +kernel)
theorem t0_6 : Ok 171278848 (1267644936121228065805112318898) (3789483500147756179480438430) 685115389 := ok_add t0_5 s27 (by decide +kernel) (by decide +kernel)
theorem t0_7 : Ok 439714304 (1267613269766516182115677770041) (9728441336192928278611440200) 1758857213 := ok_add t0_6 s28 (by decide +kernel) (by decide +kernel)
theorem t0_8 : Ok 976585216 (1267466466187966557382369852724) (21605586036451385324292996710) 3906340861 := ok_add t0_7 s29 (by decide +kernel) (by decide +kernel)
theorem t0_9 : Ok 2050327040 (1266839033490913811110700415590) (45353141928620896714802456858) 8201308157 := ok_add t0_8 s30 (by decide +kernel) (by decide +kernel)
theorem t0_10 : Ok 10640261632 (1245854418342698480180202514385) (234061557191621538316474159261) 42561046525 := ok_add t0_9 s33 (by decide +kernel) (by decide +kernel)
theorem t0_11 : Ok 45000000000 (896364335596578238676346829974) (896364335596578238692781209701) 179999999997 := ok_add t0_10 s35 (by decide +kernel) (by decide +kernel)
theorem u0 : (1 : Rat) + 1 / 4 ^ 0 ≤ (1630477228166597777 / 1152921504606846976) * (1630477228166597777 / 1152921504606846976) ∧ Cl ⟨1, 1 / 2 ^ 0⟩ (sc (1630477228166597777 / 1152921504606846976) (E wN 45000000000)) (1 / 1000000000000000) := by
  refine ⟨by decide +kernel, u_of t0_11 rfl (by decide +kernel) (d := 38 / 100000000000000000000) (by unfold Cl; decide +kernel) (by decide +kernel)⟩
theorem t1_0 : Ok 9 (1267650600228229401481064192943) (199122090649784868186) 33 := ok_add s0 s3 (by decide +kernel) (by decide +kernel)
theorem t1_1 : Ok 41 (1267650600228229401172145428902) (907111746293464399440) 161 := ok_add t1_0 s5 (by decide +kernel) (by decide +kernel)
theorem t1_2 : Ok 297 (1267650600228229384465818670250) (6571028991442900620735) 1185 := ok_add t1_1 s8 (by decide +kernel) (by decide +kernel)
theorem t1_3 : Ok 809 (1267650600228229275133289705897) (17898863481741772556714) 3233 := ok_add t1_2 s9 (by decide +kernel) (by decide +kernel)
theorem t1_4 : Ok 33577 (1267650600228011726730196178847) (742880270860827091977386) 134305 := ok_add t1_3 s15 (by decide +kernel) (by decide +kernel)
theorem t1_5 : Ok 164649 (1267650600222995295653410828778) (3642805900372367280872833) 658593 := ok_add t1_4 s17 (by decide +kernel) (by decide +kernel)
theorem t1_6 : Ok 426793 (1267650600193060493670800852027) (9442657159323079963429325) 1707169 := ok_add t1_5 s18 (by decide +kernel) (by decide +kernel)
theorem t1_7 : Ok 2523945 (1267650598998288966206205476749) (55841467213614488430074910) 10095777 := ok_add t1_6 s21 (by decide +kernel) (by decide +kernel)
theorem t1_8 : Ok 6718249 (1267650591513849324392146927242) (148639087035599762257444079) 26872993 := ok_add t1_7 s22 (by decide +kernel) (by decide +kernel)
theorem t1_9 : Ok 23495465 (1267650493644137584636017984064) (519829553385222285076638906) 93981857 := ok_add t1_8 s24 (by decide +kernel) (by decide +kernel)
theorem t1_10 : Ok 57049897 (1267649971831379400743576936849) (1262210320543832946902326896) 228199585 := ok_add t1_9 s25 (by decide +kernel) (by decide +kernel)
theorem t1_11 : Ok 124158761 (1267647623913346302125536498906) (2746970301551870993289003400) 496635041 := ok_add t1_10 s26 (by decide +kernel) (by decide +kernel)
theorem t1_12 : Ok 258376489 (1267637710921618170905999077280) (5716476921170885732383215792) 1033505953 := ok_add t1_11 s27 (by decide +kernel) (by decide +kernel)
theorem t1_13 : Ok 795247401 (1267528498488838798188689276694) (17594026759672046081677652690) 3180989601 := ok_add t1_12 s29 (by decide +kernel) (by decide +kernel)
theorem t1_14 : Ok 9385181993 (1250682296378097846619087749444) (206716805764306675403288493830) 37540727969 := ok_add t1_13 s33 (by decide +kernel) (by decide +kernel)
theorem t1_15 : Ok 26565051177 (1133821165532264208106494146519) (566910582764202948496360112483) 106260204705 := ok_add t1_14 s34 (by decide +kernel) (by decide +kernel)
theorem u1 : (1 : Rat) + 1 / 4 ^ 1 ≤ (1289005428511123394 / 1152921504606846976) * (1289005428511123394 / 1152921504606846976) ∧ Cl ⟨1, 1 / 2 ^ 1⟩ (sc (1289005428511123394 / 1152921504606846976) (E wN 26565051177)) (1522 / 1000000000000000) := by
  refine ⟨by decide +kernel, u_of t1_15 rfl (by decide +kernel) (d := 152183540 / 100000000000000000000) (by unfold Cl; decide +kernel) (by decide +kernel)⟩
theorem t2_0 : Ok 12 (1267650600228229401468900516608) (265496120866379824247) 45 := ok_add s2 s3 (by decide +kernel) (by decide +kernel)
theorem t2_1 : Ok 1036 (1267650600228229194270907108550) (22921165101464123577837) 4141 := ok_add t2_0 s10 (by decide +kernel) (by decide +kernel)
theorem t2_2 : Ok 5132 (1267650600228224316418909633733) (113543841023854953013174) 20525 := ok_add t2_1 s12 (by decide +kernel) (by decide +kernel)
theorem t2_3 : Ok 2102284 (1267650599374918928594016338709) (46512353902851544167742443) 8409133 := ok_add t2_2 s21 (by decide +kernel) (by decide +kernel)
theorem t2_4 : Ok 10490892 (1267650578978708781940025787638) (232107592905411388761407089) 41963565 := ok_add t2_3 s23 (by decide +kernel) (by decide +kernel)
theorem t2_5 : Ok 77599756 (1267649437589058311948371098086) (1716868991633080847388077299) 310399021 := ok_add t2_4 s26 (by decide +kernel) (by decide +kernel)
theorem t2_6 : Ok 1151341580 (1267394672070528939410760458923) (25471345983804771709330012903) 4605366317 := ok_add t2_5 s30 (by decide +kernel) (by decide +kernel)
theorem t2_7 : Ok 5446308876 (1261927889339428358224092066316) (120316442626624110554196615886) 21785235501 := ok_add t2_6 s32 (by decide +kernel) (by decide +kernel)
theorem t2_8 : Ok 14036243468 (1229801722615750587327581596376) (307450430655614346481969213071) 56144973869 := ok_add t2_7 s33 (by decide +kernel) (by decide +kernel)
theorem u2 : (1 : Rat) + 1 / 4 ^ 2 ≤ (1188404285385017078 / 1152921504606846976) * (1188404285385017078 / 1152921504606846976) ∧ Cl ⟨1, 1 / 2 ^ 2⟩ (sc (1188404285385017078 / 1152921504606846976) (E wN 14036243468)) (1323 / 1000000000000000) := by
  refine ⟨by decide +kernel, u_of t2_8 rfl (by decide +kernel) (d := 132268281 / 100000000000000000000) (by unfold Cl; decide +kernel) (by decide +kernel)⟩
theorem t3_0 : Ok 5 (1267650600228229401491876349686) (110623383694324926770) 17 := ok_add s0 s2 (by decide +kernel) (by decide +kernel)
theorem t3_1 : Ok 13 (1267650600228229401464073660920) (287620797605244809600) 49 := ok_add t3_0 s3 (by decide +kernel) (by decide +kernel)
theorem t3_2 : Ok 29 (1267650600228229401334327780021) (641615625427084575241) 113 := ok_add t3_1 s4 (by decide +kernel) (by decide +kernel)
theorem t3_3 : Ok 285 (1267650600228229385814249075229) (6305532870576520799911) 1137 := ok_add t3_2 s8 (by decide +kernel) (by decide +kernel)
theorem t3_4 : Ok 797 (1267650600228229278854216218597) (17633367360875392758540) 3185 := ok_add t3_3 s9 (by decide +kernel) (by decide +kernel)
theorem t3_5 : Ok 1821 (1267650600228228761254648717138) (40289036341473131546965) 7281 := ok_add t3_4 s10 (by decide +kernel) (by decide +kernel)
theorem t3_6 : Ok 3869 (1267650600228226511337506561443) (85600374302668563280555) 15473 := ok_add t3_5 s11 (by decide +kernel) (by decide +kernel)
theorem t3_7 : Ok 7965 (1267650600228217152631193638962) (176223050225059040751315) 31857 := ok_add t3_6 s12 (by decide +kernel) (by decide +kernel)
theorem t3_8 : Ok 73501 (1267650600227186337868998874305) (1626185864982869262524139) 294001 := ok_add t3_7 s16 (by decide +kernel) (by decide +kernel)
theorem t3_9 : Ok 204573 (1267650600220149223387319724752) (4526111494490209964503047) 818289 := ok_add t3_8 s17 (by decide +kernel) (by decide +kernel)
theorem t3_10 : Ok 466717 (1267650600186173054594977406793) (10325962753418655897057152) 1866865 := ok_add t3_9 s18 (by decide +kernel) (by decide +kernel)
theorem t3_11 : Ok 991005 (1267650600038612957697575062257) (21925665270505673835467564) 3964017 := ok_add t3_10 s19 (by decide +kernel) (by decide +kernel)
theorem t3_12 : Ok 3088157 (1267650598386935779640822024029) (68324475310782083896463632) 12352625 := ok_add t3_11 s21 (by decide +kernel) (by decide +kernel)
theorem t3_13 : Ok 11476765 (1267650574797238495991575083550) (253919713934915115157360319) 45907057 := ok_add t3_12 s23 (by decide +kernel) (by decide +kernel)
theorem t3_14 : Ok 145694493 (1267646501865957717829449229074) (3223440086418817093232364200) 582777969 := ok_add t3_13 s27 (by decide +kernel) (by decide +kernel)
theorem t3_15 : Ok 682565405 (1267560648872096822284286323434) (15101181739822365099349001176) 2730261617 := ok_add t3_14 s29 (by decide +kernel) (by decide +kernel)
theorem t3_16 : Ok 2830049053 (1266104548809882689039452284317) (62588463329224332410970045310) 11320196209 := ok_add t3_15 s31 (by decide +kernel) (by decide +kernel)
theorem t3_17 : Ok 7125016349 (1257861646009004320114252139509) (157232705753315145617287986121) 28500065393 := ok_add t3_16 s32 (by decide +kernel) (by decide +kernel)
theorem u3 : (1 : Rat) + 1 / 4 ^ 3 ≤ (1161893791712071756 / 1152921504606846976) * (1161893791712071756 / 1152921504606846976) ∧ Cl ⟨1, 1 / 2 ^ 3⟩ (sc (1161893791712071756 / 1152921504606846976) (E wN 7125016349)) (1728 / 1000000000000000) := by
  refine ⟨by decide +kernel, u_of t3_17 rfl (by decide +kernel) (d := 172729426 / 100000000000000000000) (by unfold Cl; decide +kernel) (by decide +kernel)⟩
theorem t4_0 : Ok 3 (1267650600228229401494965537327) (66374030216594956062) 9 := ok_add s0 s1 (by decide +kernel) (by decide +kernel)
theorem t4_1 : Ok 7 (1267650600228229401487242568225) (154872737172054897478) 25 := ok_add t4_0 s2 (by decide +kernel) (by decide +kernel)
theorem t4_2 : Ok 39 (1267650600228229401203037305306) (862862392815734428743) 153 := ok_add t4_1 s5 (by decide +kernel) (by decide +kernel)
theorem t4_3 : Ok 2087 (1267650600228228560548583135450) (46174200354011214223453) 8345 := ok_add t4_2 s11 (by decide +kernel) (by decide +kernel)
theorem t4_4 : Ok 34855 (1267650600227994841212019388058) (771155607733091500811199) 139417 := ok_add t4_3 s15 (by decide +kernel) (by decide +kernel)
theorem t4_5 : Ok 165927 (1267650600222913726401353264743) (3671081237244519075271919) 663705 := ok_add t4_4 s17 (by decide +kernel) (by decide +kernel)
theorem t4_6 : Ok 690215 (1267650600136249467729145557227) (15270783754946349697187742) 2760857 := ok_add t4_5 s19 (by decide +kernel) (by decide +kernel)
theorem t4_7 : Ok 2787367 (1267650598728155642440427812008) (61669593803254315728970940) 11149465 := ok_add t4_6 s21 (by decide +kernel) (by decide +kernel)
theorem t4_8 : Ok 19564583 (1267650526324646600294001351272) (432860065993830086800219806) 78258329 := ok_add t4_7 s24 (by decide +kernel) (by decide +kernel)
theorem t4_9 : Ok 86673447 (1267649149799609564417108058808) (1917621265345733296165403377) 346693785 := ok_add t4_8 s26 (by decide +kernel) (by decide +kernel)
theorem t4_10 : Ok 355108903 (1267626253195636344260481654489) (7856619386398608796686507696) 1420435609 := ok_add t4_9 s28 (by decide +kernel) (by decide +kernel)
theorem t4_11 : Ok 1428850727 (1267256437533542307490426327341) (31609583812278501706614522878) 5715402905 := ok_add t4_10 s30 (by decide +kernel) (by decide +kernel)
theorem t4_12 : Ok 3576334375 (1265181950173162049354026237454) (79073871885881350031723940329) 14305337497 := ok_add t4_11 s31 (by decide +kernel) (by decide +kernel)
theorem u4 : (1 : Rat) + 1 / 4 ^ 4 ≤ (1155171109681786797 / 1152921504606846976) * (1155171109681786797 / 1152921504606846976) ∧ Cl ⟨1, 1 / 2 ^ 4⟩ (sc (1155171109681786797 / 1152921504606846976) (E wN 3576334375)) (47 / 1000000000000000) := by
  refine ⟨by decide +kernel, u_of t4_12 rfl (by decide +kernel) (d := 4632345 / 100000000000000000000) (by unfold Cl; decide +kernel) (by decide +kernel)⟩
theorem t5_0 : Ok 80 (1267650600228229400261028149234) (1769974139109198827752) 317 := ok_add s4 s6 (by decide +kernel) (by decide +kernel)
theorem t5_1 : Ok 592 (1267650600228229333831137132823) (13097808629408071096569) 2365 := ok_add t5_0 s9 (by decide +kernel) (by decide +kernel)
theorem t5_2 : Ok 1616 (1267650600228228897291853311806) (35753477610005811591912) 6461 := ok_add t5_1 s10 (by decide +kernel) (by decide +kernel)
theorem t5_3 : Ok 3664 (1267650600228226809495278516996) (81064815571201251085509) 14653 := ok_add t5_2 s11 (by decide +kernel) (by decide +kernel)
theorem t5_4 : Ok 7760 (1267650600228217775030100316283) (171687491493591761460962) 31037 := ok_add t5_3 s12 (by decide +kernel) (by decide +kernel)
theorem t5_5 : Ok 24144 (1267650600228116852209006033564) (534178195183140397254766) 96573 := ok_add t5_4 s14 (by decide +kernel) (by decide +kernel)
theorem t5_6 : Ok 56912 (1267650600227604038756986403635) (1259159602562076988496557) 227645 := ok_add t5_5 s15 (by decide +kernel) (by decide +kernel)
theorem t5_7 : Ok 122448 (1267650600225334540613623650866) (2709122417318477504204107) 489789 := ok_add t5_6 s16 (by decide +kernel) (by decide +kernel)
theorem t5_8 : Ok 253520 (1267650600215820059369617413927) (5609048046818748305372955) 1014077 := ok_add t5_7 s17 (by decide +kernel) (by decide +kernel)
theorem t5_9 : Ok 515664 (1267650600176889157052701853247) (11408899305716052481589054) 2062653 := ok_add t5_8 s18 (by decide +kernel) (by decide +kernel)
theorem t5_10 : Ok 1039952 (1267650600019419593106839765098) (23008601822672779088454818) 4159805 := ok_add t5_9 s19 (by decide +kernel) (by decide +kernel)
theorem t5_11 : Ok 3137104 (1267650598328104546880616309664) (69407411861521252905345616) 12548413 := ok_add t5_10 s21 (by decide +kernel) (by decide +kernel)
theorem t5_12 : Ok 11525712 (1267650574579855791872699493301) (255002650465434204568361605) 46102845 := ok_add t5_11 s23 (by decide +kernel) (by decide +kernel)
theorem t5_13 : Ok 45080144 (1267650207859062114723947135879) (997383510436528412781713076) 180320573 := ok_add t5_12 s25 (by decide +kernel) (by decide +kernel)
theorem t5_14 : Ok 179297872 (1267644393335756277844590548200) (3966900983475687980328414063) 717191485 := ok_add t5_13 s27 (by decide +kernel) (by decide +kernel)
theorem t5_15 : Ok 716168784 (1267551574185069225262539330362) (15844590242200141726660776574) 2864675133 := ok_add t5_14 s29 (by decide +kernel) (by decide +kernel)
theorem t5_16 : Ok 1789910608 (1267032083187319208874883192685) (39594752594156863747755919528) 7159642429 := ok_add t5_15 s30 (by decide +kernel) (by decide +kernel)
theorem u5 : (1 : Rat) + 1 / 4 ^ 5 ≤ (1153484317188382748 / 1152921504606846976) * (1153484317188382748 / 1152921504606846976) ∧ Cl ⟨1, 1 / 2 ^ 5⟩ (sc (1153484317188382748 / 1152921504606846976) (E wN 1789910608)) (4297 / 1000000000000000) := by
  refine ⟨by decide +kernel, u_of t5_16 rfl (by decide +kernel) (d := 429681612 / 100000000000000000000) (by unfold Cl; decide +kernel) (by decide +kernel)⟩
theorem t6_0 : Ok 6 (1267650600228229401489752533183) (132748060433189912124) 21 := ok_add s1 s2 (by decide +kernel) (by decide +kernel)
theorem t6_1 : Ok 14 (1267650600228229401458860656776) (309745474344109794954) 53 := ok_add t6_0 s3 (by decide +kernel) (by decide +kernel)
theorem t6_2 : Ok 78 (1267650600228229400322039605130) (1725724785631468857085) 309 := ok_add t6_1 s6 (by decide +kernel) (by decide +kernel)
theorem t6_3 : Ok 1102 (1267650600228229167026589012150) (24381393766229212356969) 4405 := ok_add t6_2 s10 (by decide +kernel) (by decide +kernel)
theorem t6_4 : Ok 17486 (1267650600228170367083055265691) (386872097455787128364568) 69941 := ok_add t6_3 s14 (by decide +kernel) (by decide +kernel)
theorem t6_5 : Ok 83022 (1267650600226898607942816807248) (1836834912213406037563312) 332085 := ok_add t6_4 s16 (by decide +kernel) (by decide +kernel)
theorem t6_6 : Ok 214094 (1267650600219379604705051714687) (4736760541719537324136892) 856373 := ok_add t6_5 s17 (by decide +kernel) (by decide +kernel)
theorem t6_7 : Ok 738382 (1267650600122963792324760662645) (16336463059344412733493187) 2953525 := ok_add t6_6 s19 (by decide +kernel) (by decide +kernel)
theorem t6_8 : Ok 1786958 (1267650599611701130342746190813) (39535868089519206795610108) 7147829 := ok_add t6_7 s20 (by decide +kernel) (by decide +kernel)
theorem t6_9 : Ok 5981262 (1267650593320903324882781927193) (132333488000098885018647529) 23925045 := ok_add t6_8 s22 (by decide +kernel) (by decide +kernel)
theorem t6_10 : Ok 22758478 (1267650500225758769739152440238) (503523955577897529571337399) 91033909 := ok_add t6_9 s24 (by decide +kernel) (by decide +kernel)
theorem t6_11 : Ok 89867342 (1267649040934219801084651233134) (1988285075889944205565462134) 359469365 := ok_add t6_10 s26 (by decide +kernel) (by decide +kernel)
theorem t6_12 : Ok 358302798 (1267625813266867795328296245235) (7927281911367504609856854086) 1433211189 := ok_add t6_11 s28 (by decide +kernel) (by decide +kernel)
theorem t6_13 : Ok 895173710 (1267495886051827208917352434192) (19804623214889279154792004286) 3580694837 := ok_add t6_12 s29 (by decide +kernel) (by decide +kernel)
theorem u6 : (1 : Rat) + 1 / 4 ^ 6 ≤ (1153062233506316129 / 1152921504606846976) * (1153062233506316129 / 1152921504606846976) ∧ Cl ⟨1, 1 / 2 ^ 6⟩ (sc (1153062233506316129 / 1152921504606846976) (E wN 895173710)) (3685 / 1000000000000000) := by
  refine ⟨by decide +kernel, u_of t6_13 rfl (by decide +kernel) (d := 368439142 / 100000000000000000000) (by unfold Cl; decide +kernel) (by decide +kernel)⟩
theorem t7_0 : Ok 3 (1267650600228229401494965537327) (66374030216594956062) 9 := ok_add s0 s1 (by decide +kernel) (by decide +kernel)
theorem t7_1 : Ok 11 (1267650600228229401473341223841) (243371444127514838893) 41 := ok_add t7_0 s3 (by decide +kernel) (by decide +kernel)
theorem t7_2 : Ok 27 (1267650600228229401355952093503) (597366271949354604538) 105 := ok_add t7_1 s4 (by decide +kernel) (by decide +kernel)
theorem t7_3 : Ok 91 (1267650600228229399897855527270) (2013345583236713666375) 361 := ok_add t7_2 s6 (by decide +kernel) (by decide +kernel)
theorem t7_4 : Ok 219 (1267650600228229392236670179362) (4845304205811431780746) 873 := ok_add t7_3 s7 (by decide +kernel) (by decide +kernel)
theorem t7_5 : Ok 1243 (1267650600228229103187561054955) (27500973186409174637908) 4969 := ok_add t7_4 s10 (by decide +kernel) (by decide +kernel)
theorem t7_6 : Ok 3291 (1267650600228227310371335653365) (72812311147604626763052) 13161 := ok_add t7_5 s11 (by decide +kernel) (by decide +kernel)
theorem t7_7 : Ok 134363 (1267650600224743752193074513702) (2972737940661391322092010) 537449 := ok_add t7_6 s17 (by decide +kernel) (by decide +kernel)
theorem t7_8 : Ok 396507 (1267650600197874696007477485272) (8772589199627116992194029) 1586025 := ok_add t7_7 s18 (by decide +kernel) (by decide +kernel)
theorem t7_9 : Ok 920795 (1267650600064528824322682088908) (20372291716886245409087899) 3683177 := ok_add t7_8 s19 (by decide +kernel) (by decide +kernel)
theorem t7_10 : Ok 3017947 (1267650598469708547082754874590) (66771101759151777428747291) 12071785 := ok_add t7_9 s21 (by decide +kernel) (by decide +kernel)
theorem t7_11 : Ok 11406555 (1267650575107438864830162434617) (252366340412052177147592031) 45626217 := ok_add t7_10 s23 (by decide +kernel) (by decide +kernel)
theorem t7_12 : Ok 44960987 (1267650209930561282875685181727) (994747201144203583250533355) 179843945 := ok_add t7_11 s25 (by decide +kernel) (by decide +kernel)
theorem t7_13 : Ok 179178715 (1267644401582907427034911764460) (3964264686269300777567635522) 716714857 := ok_add t7_12 s27 (by decide +kernel) (by decide +kernel)
theorem t7_14 : Ok 447614171 (1267611916372774994725071865179) (9903218099747616978370994225) 1790456681 := ok_add t7_13 s28 (by decide +kernel) (by decide +kernel)
theorem u7 : (1 : Rat) + 1 / 4 ^ 7 ≤ (1152956688442081280 / 1152921504606846976) * (1152956688442081280 / 1152921504606846976) ∧ Cl ⟨1, 1 / 2 ^ 7⟩ (sc (1152956688442081280 / 1152921504606846976) (E wN 447614171)) (2434 / 1000000000000000) := by
  refine ⟨by decide +kernel, u_of t7_14 rfl (by decide +kernel) (d := 243388228 / 100000000000000000000) (by unfold Cl; decide +kernel) (by decide +kernel)⟩
theorem t8_0 : Ok 68 (1267650600228229400603927977309) (1504478018242819003724) 269 := ok_add s2 s6 (by decide +kernel) (by decide +kernel)
theorem t8_1 : Ok 196 (1267650600228229394079563681017) (4336436640817537120942) 781 := ok_add t8_0 s7 (by decide +kernel) (by decide +kernel)
theorem t8_2 : Ok 452 (1267650600228229362050866226671) (10000353885966973276317) 1805 := ok_add t8_1 s8 (by decide +kernel) (by decide +kernel)
theorem t8_3 : Ok 964 (1267650600228229222073595870932) (21328188376265844875072) 3853 := ok_add t8_2 s9 (by decide +kernel) (by decide +kernel)
theorem t8_4 : Ok 5060 (1267650600228224458101411566687) (111950864298656680368546) 20237 := ok_add t8_3 s12 (by decide +kernel) (by decide +kernel)
theorem t8_5 : Ok 70596 (1267650600227267159085274672771) (1561913679056517302629635) 282381 := ok_add t8_4 s16 (by decide +kernel) (by decide +kernel)
theorem t8_6 : Ok 201668 (1267650600220377076095710851297) (4461839308564211071701772) 806669 := ok_add t8_5 s17 (by decide +kernel) (by decide +kernel)
theorem t8_7 : Ok 463812 (1267650600186694970287594842782) (10261690567494372202909117) 1855245 := ok_add t8_6 s18 (by decide +kernel) (by decide +kernel)
theorem t8_8 : Ok 1512388 (1267650599786607349357123095918) (33461095599852830134392067) 6049549 := ok_add t8_7 s20 (by decide +kernel) (by decide +kernel)
theorem t8_9 : Ok 5706692 (1267650593940509707145156637981) (126258715539513423316556353) 22826765 := ok_add t8_8 s22 (by decide +kernel) (by decide +kernel)
theorem t8_10 : Ok 22483908 (1267650502624165747958540859149) (497449183559175873823010679) 89935629 := ok_add t8_9 s24 (by decide +kernel) (by decide +kernel)
theorem t8_11 : Ok 89592772 (1267649050447825581503578176390) (1982210310847318715793285556) 358371085 := ok_add t8_10 s26 (by decide +kernel) (by decide +kernel)
theorem t8_12 : Ok 223810500 (1267640928932383392032033170039) (4951722370488274638899888442) 895241997 := ok_add t8_11 s27 (by decide +kernel) (by decide +kernel)
theorem u8 : (1 : Rat) + 1 / 4 ^ 8 ≤ (1152930300666315008 / 1152921504606846976) * (1152930300666315008 / 1152921504606846976) ∧ Cl ⟨1, 1 / 2 ^ 8⟩ (sc (1152930300666315008 / 1152921504606846976) (E wN 223810500)) (6433 / 1000000000000000) := by
  refine ⟨by decide +kernel, u_of t8_12 rfl (by decide +kernel) (d := 643225191 / 100000000000000000000) (by unfold Cl; decide +kernel) (by decide +kernel)⟩
theorem t9_0 : Ok 5 (1267650600228229401491876349686) (110623383694324926770) 17 := ok_add s0 s2 (by decide +kernel) (by decide +kernel)
theorem t9_1 : Ok 13 (1267650600228229401464073660920) (287620797605244809600) 49 := ok_add t9_0 s3 (by decide +kernel) (by decide +kernel)
theorem t9_2 : Ok 141 (1267650600228229397658194488058) (3119579420179962931776) 561 := ok_add t9_1 s7 (by decide +kernel) (by decide +kernel)
theorem t9_3 : Ok 397 (1267650600228229371066467280571) (8783496665329399115287) 1585 := ok_add t9_2 s8 (by decide +kernel) (by decide +kernel)
theorem t9_4 : Ok 909 (1267650600228229241963137418549) (20111331155628270843192) 3633 := ok_add t9_3 s9 (by decide +kernel) (by decide +kernel)
theorem t9_5 : Ok 2957 (1267650600228227713284812009815) (65422669116823732649495) 11825 := ok_add t9_4 s11 (by decide +kernel) (by decide +kernel)
theorem t9_6 : Ok 35725 (1267650600227982985566308441130) (790404076495900386780004) 142897 := ok_add t9_5 s15 (by decide +kernel) (by decide +kernel)
theorem t9_7 : Ok 101261 (1267650600226249658889977351325) (2240366891253040990589815) 405041 := ok_add t9_6 s16 (by decide +kernel) (by decide +kernel)
theorem t9_8 : Ok 232333 (1267650600217807520580030147022) (5140292520756631817262485) 929329 := ok_add t9_7 s17 (by decide +kernel) (by decide +kernel)
theorem t9_9 : Ok 756621 (1267650600117699167911141230003) (16739995038350227398708300) 3026481 := ok_add t9_8 s19 (by decide +kernel) (by decide +kernel)
theorem t9_10 : Ok 2853773 (1267650598655828966662488384171) (63138805084995044479854162) 11415089 := ok_add t9_9 s21 (by decide +kernel) (by decide +kernel)
theorem t9_11 : Ok 11242381 (1267650575825359584100337139481) (248734043804075246687471351) 44969521 := ok_add t9_10 s23 (by decide +kernel) (by decide +kernel)
theorem t9_12 : Ok 44796813 (1267650212775682933023116604587) (991114905579548406423569994) 179187249 := ok_add t9_11 s25 (by decide +kernel) (by decide +kernel)
theorem t9_13 : Ok 111905677 (1267648182383510540219502188954) (2475875354752985251145721744) 447622705 := ok_add t9_12 s26 (by decide +kernel) (by decide +kernel)
theorem u9 : (1 : Rat) + 1 / 4 ^ 9 ≤ (1152923703628005380 / 1152921504606846976) * (1152923703628005380 / 1152921504606846976) ∧ Cl ⟨1, 1 / 2 ^ 9⟩ (sc (1152923703628005380 / 1152921504606846976) (E wN 111905677)) (1156 / 1000000000000000) := by
  refine ⟨by decide +kernel, u_of t9_13 rfl (by decide +kernel) (d := 115553038 / 100000000000000000000) (by unfold Cl; decide +kernel) (by decide +kernel)⟩
theorem t10_0 : Ok 12 (1267650600228229401468900516608) (265496120866379824247) 45 := ok_add s2 s3 (by decide +kernel) (by decide +kernel)
theorem t10_1 : Ok 28 (1267650600228229401345333010990) (619490948688219589890) 109 := ok_add t10_0 s4 (by decide +kernel) (by decide +kernel)
theorem t10_2 : Ok 60 (1267650600228229400801635986289) (1327480604331899121003) 237 := ok_add t10_1 s5 (by decide +kernel) (by decide +kernel)
theorem t10_3 : Ok 124 (1267650600228229398527993883027) (2743459915619258181765) 493 := ok_add t10_2 s6 (by decide +kernel) (by decide +kernel)
theorem t10_4 : Ok 252 (1267650600228229389235717461062) (5575418538193976291254) 1005 := ok_add t10_3 s7 (by decide +kernel) (by decide +kernel)
theorem t10_5 : Ok 508 (1267650600228229351671195755369) (11239335783343412412619) 2029 := ok_add t10_4 s8 (by decide +kernel) (by decide +kernel)
theorem t10_6 : Ok 1532 (1267650600228228948346857442436) (33895004763941153523614) 6125 := ok_add t10_5 s10 (by decide +kernel) (by decide +kernel)
theorem t10_7 : Ok 17916 (1267650600228167427941120176783) (396385708453498618034169) 71661 := ok_add t10_6 s14 (by decide +kernel) (by decide +kernel)
theorem t10_8 : Ok 50684 (1267650600227733419319814565356) (1121367115832486668632328) 202733 := ok_add t10_7 s15 (by decide +kernel) (by decide +kernel)
theorem t10_9 : Ok 116220 (1267650600225621530837879696864) (2571329930589125310744076) 464877 := ok_add t10_8 s16 (by decide +kernel) (by decide +kernel)
theorem t10_10 : Ok 378364 (1267650600200589027052577077848) (8371181189563068427319068) 1513453 := ok_add t10_9 s18 (by decide +kernel) (by decide +kernel)
theorem t10_11 : Ok 1426940 (1267650599835099814208639791137) (31570586222492397458281791) 5707757 := ok_add t10_10 s20 (by decide +kernel) (by decide +kernel)
theorem t10_12 : Ok 5621244 (1267650594127395804064514584919) (124368206170768365559686755) 22484973 := ok_add t10_11 s22 (by decide +kernel) (by decide +kernel)
theorem t10_13 : Ok 22398460 (1267650503364626355717893022579) (495558674326202562385583039) 89593837 := ok_add t10_12 s24 (by decide +kernel) (by decide +kernel)
theorem t10_14 : Ok 55952892 (1267649995765749644912100174600) (1237939451339550520475041736) 223811565 := ok_add t10_13 s25 (by decide +kernel) (by decide +kernel)
theorem u10 : (1 : Rat) + 1 / 4 ^ 10 ≤ (1152922054362529793 / 1152921504606846976) * (1152922054362529793 / 1152921504606846976) ∧ Cl ⟨1, 1 / 2 ^ 10⟩ (sc (1152922054362529793 / 1152921504606846976) (E wN 55952892)) (1854 / 1000000000000000) := by
  refine ⟨by decide +kernel, u_of t10_14 rfl (by decide +kernel) (d := 185347653 / 100000000000000000000) (by unfold Cl; decide +kernel) (by decide +kernel)⟩
theorem t11_0 : Ok 5 (1267650600228229401491876349686) (110623383694324926770) 17 := ok_add s0 s2 (by decide +kernel) (by decide +kernel)
theorem t11_1 : Ok 261 (1267650600228229388344293752614) (5774540628843761157444) 1041 := ok_add t11_0 s8 (by decide +kernel) (by decide +kernel)
theorem t11_2 : Ok 773 (1267650600228229286129253111422) (17102375119142633159883) 3089 := ok_add t11_1 s9 (by decide +kernel) (by decide +kernel)
theorem t11_3 : Ok 8965 (1267650600228213883884521787575) (198347726963923784358798) 35857 := ok_add t11_2 s13 (by decide +kernel) (by decide +kernel)
theorem t11_4 : Ok 25349 (1267650600228105337442601364073) (560838430653470217455788) 101393 := ok_add t11_3 s14 (by decide +kernel) (by decide +kernel)
theorem t11_5 : Ok 58117 (1267650600227577276748929456026) (1285819838032395863272312) 232465 := ok_add t11_4 s15 (by decide +kernel) (by decide +kernel)
theorem t11_6 : Ok 189189 (1267650600221318796509833018593) (4185745467541521508495929) 756753 := ok_add t11_5 s17 (by decide +kernel) (by decide +kernel)
theorem t11_7 : Ok 713477 (1267650600129945076124049136789) (15785447985207210555028338) 2853905 := ok_add t11_6 s19 (by decide +kernel) (by decide +kernel)
theorem t11_8 : Ok 2810629 (1267650598703013403990248880026) (62184258032939668550430029) 11242513 := ok_add t11_7 s21 (by decide +kernel) (by decide +kernel)
theorem t11_9 : Ok 11199237 (1267650576012298136787288889557) (247779496769158707224013508) 44796945 := ok_add t11_8 s23 (by decide +kernel) (by decide +kernel)
theorem t11_10 : Ok 27976453 (1267650449112524833726776681997) (618969954329395918281791297) 111905809 := ok_add t11_9 s24 (by decide +kernel) (by decide +kernel)
theorem u11 : (1 : Rat) + 1 / 4 ^ 11 ≤ (1152921642045792257 / 1152921504606846976) * (1152921642045792257 / 1152921504606846976) ∧ Cl ⟨1, 1 / 2 ^ 11⟩ (sc (1152921642045792257 / 1152921504606846976) (E wN 27976453)) (6685 / 1000000000000000) := by
  refine ⟨by decide +kernel, u_of t11_10 rfl (by decide +kernel) (d := 668454770 / 100000000000000000000) (by unfold Cl; decide +kernel) (by decide +kernel)⟩
theorem t12_0 : Ok 3 (1267650600228229401494965537327) (66374030216594956062) 9 := ok_add s0 s1 (by decide +kernel) (by decide +kernel)
theorem t12_1 : Ok 131 (1267650600228229398183356386906) (2898332652791313078859) 521 := ok_add t12_0 s7 (by decide +kernel) (by decide +kernel)
theorem t12_2 : Ok 387 (1267650600228229372580169224303) (8562249897940749266925) 1545 := ok_add t12_1 s8 (by decide +kernel) (by decide +kernel)
theorem t12_3 : Ok 4483 (1267650600228225521228154356453) (99184925820331628140925) 17929 := ok_add t12_2 s12 (by decide +kernel) (by decide +kernel)
theorem t12_4 : Ok 12675 (1267650600228198383036010176441) (280430277665111402056713) 50697 := ok_add t12_3 s13 (by decide +kernel) (by decide +kernel)
theorem t12_5 : Ok 29059 (1267650600228066364699264041799) (642920981354650046662680) 116233 := ok_add t12_4 s14 (by decide +kernel) (by decide +kernel)
theorem t12_6 : Ok 94595 (1267650600226501731986176175538) (2092883796111982498785550) 378377 := ok_add t12_5 s16 (by decide +kernel) (by decide +kernel)
theorem t12_7 : Ok 356739 (1267650600203658251276242889718) (7892735055094960470750485) 1426953 := ok_add t12_6 s18 (by decide +kernel) (by decide +kernel)
theorem t12_8 : Ok 1405315 (1267650599846925130732682219013) (31092140088160582768793542) 5621257 := ok_add t12_7 s20 (by decide +kernel) (by decide +kernel)
theorem t12_9 : Ok 5599619 (1267650594174245489721130082960) (123889760038584185465169437) 22398473 := ok_add t12_8 s22 (by decide +kernel) (by decide +kernel)
theorem t12_10 : Ok 13988227 (1267650562449299995838371296788) (309484997450406078085658733) 55952905 := ok_add t12_9 s23 (by decide +kernel) (by decide +kernel)
theorem u12 : (1 : Rat) + 1 / 4 ^ 12 ≤ (1152921538966584833 / 1152921504606846976) * (1152921538966584833 / 1152921504606846976) ∧ Cl ⟨1, 1 / 2 ^ 12⟩ (sc (1152921538966584833 / 1152921504606846976) (E wN 13988227)) (2483 / 1000000000000000) := by
  refine ⟨by decide +kernel, u_of t12_10 rfl (by decide +kernel) (d := 248299299 / 100000000000000000000) (by unfold Cl; decide +kernel) (by decide +kernel)⟩
theorem t13_0 : Ok 66 (1267650600228229400655671870284) (1460228664765089033047) 261 := ok_add s1 s6 (by decide +kernel) (by decide +kernel)
theorem t13_1 : Ok 194 (1267650600228229394230161578481) (4292187287339807150491) 773 := ok_add t13_0 s7 (by decide +kernel) (by decide +kernel)
theorem t13_2 : Ok 2242 (1267650600228228430996741843077) (49603525248535284505207) 8965 := ok_add t13_1 s11 (by decide +kernel) (by decide +kernel)
theorem t13_3 : Ok 6338 (1267650600228221645657873761169) (140226201170925991193212) 25349 := ok_add t13_2 s12 (by decide +kernel) (by decide +kernel)
theorem t13_4 : Ok 14530 (1267650600228188639492023153114) (321471553015704791496414) 58117 := ok_add t13_3 s13 (by decide +kernel) (by decide +kernel)
theorem t13_5 : Ok 47298 (1267650600227797474987094818570) (1046452960394717224660175) 189189 := ok_add t13_4 s15 (by decide +kernel) (by decide +kernel)
theorem t13_6 : Ok 178370 (1267650600222086579502971507163) (3946378589904972941566646) 713477 := ok_add t13_5 s17 (by decide +kernel) (by decide +kernel)
theorem t13_7 : Ok 702658 (1267650600132903198137011292490) (15546081107587709031532735) 2810629 := ok_add t13_6 s19 (by decide +kernel) (by decide +kernel)
theorem t13_8 : Ok 2799810 (1267650598714732882078194764030) (61944891155588783307852882) 11199237 := ok_add t13_7 s21 (by decide +kernel) (by decide +kernel)
theorem t13_9 : Ok 6994114 (1267650590783495664514644700992) (154742510940462722470079606) 27976453 := ok_add t13_8 s22 (by decide +kernel) (by decide +kernel)
theorem u13 : (1 : Rat) + 1 / 4 ^ 13 ≤ (1152921513196781537 / 1152921504606846976) * (1152921513196781537 / 1152921504606846976) ∧ Cl ⟨1, 1 / 2 ^ 13⟩ (sc (1152921513196781537 / 1152921504606846976) (E wN 6994114)) (5667 / 1000000000000000) := by
  refine ⟨by decide +kernel, u_of t13_9 rfl (by decide +kernel) (d := 566616053 / 100000000000000000000) (by unfold Cl; decide +kernel) (by decide +kernel)⟩
theorem t14_0 : Ok 33 (1267650600228229401286445371595) (730114332382544516644) 129 := ok_add s0 s5 (by decide +kernel) (by decide +kernel)
theorem t14_1 : Ok 97 (1267650600228229399680067798629) (2146093643669903578321) 385 := ok_add t14_0 s6 (by decide +kernel) (by decide +kernel)
theorem t14_2 : Ok 1121 (1267650600228229158871712864534) (24801762624267646999596) 4481 := ok_add t14_1 s10 (by decide +kernel) (by decide +kernel)
theorem t14_3 : Ok 3169 (1267650600228227462536995843568) (70113100585463102839467) 12673 := ok_add t14_2 s11 (by decide +kernel) (by decide +kernel)
theorem t14_4 : Ok 7265 (1267650600228219210995533190540) (160735776507853687885109) 29057 := ok_add t14_3 s12 (by decide +kernel) (by decide +kernel)
theorem t14_5 : Ok 23649 (1267650600228121419869301098446) (523226480197403182061544) 94593 := ok_add t14_4 s14 (by decide +kernel) (by decide +kernel)
theorem t14_6 : Ok 89185 (1267650600226693695998269329374) (1973189294954876906798711) 356737 := ok_add t14_5 s16 (by decide +kernel) (by decide +kernel)
theorem t14_7 : Ok 351329 (1267650600204397850656556129592) (7773040553939985958539632) 1405313 := ok_add t14_6 s18 (by decide +kernel) (by decide +kernel)
theorem t14_8 : Ok 1399905 (1267650599849855271585606344262) (30972445587039188404785716) 5599617 := ok_add t14_7 s20 (by decide +kernel) (by decide +kernel)
theorem t14_9 : Ok 3497057 (1267650597867045965052164128152) (77371255614346567097459888) 13988225 := ok_add t14_8 s21 (by decide +kernel) (by decide +kernel)
theorem u14 : (1 : Rat) + 1 / 4 ^ 14 ≤ (1152921506754330623 / 1152921504606846976) * (1152921506754330623 / 1152921504606846976) ∧ Cl ⟨1, 1 / 2 ^ 14⟩ (sc (1152921506754330623 / 1152921504606846976) (E wN 3497057)) (2606 / 1000000000000000) := by
  refine ⟨by decide +kernel, u_of t14_9 rfl (by decide +kernel) (d := 260570658 / 100000000000000000000) (by unfold Cl; decide +kernel) (by decide +kernel)⟩
theorem t15_0 : Ok 48 (1267650600228229401051860185155) (1061984483465519296872) 189 := ok_add s4 s5 (by decide +kernel) (by decide +kernel)
theorem t15_1 : Ok 560 (1267650600228229340948625455998) (12389818973764391601024) 2237 := ok_add t15_0 s9 (by decide +kernel) (by decide +kernel)
theorem t15_2 : Ok 1584 (1267650600228228917062654209489) (35045487954362132336643) 6333 := ok_add t15_1 s10 (by decide +kernel) (by decide +kernel)
theorem t15_3 : Ok 3632 (1267650600228226854572704563695) (80356825915557572989219) 14525 := ok_add t15_2 s11 (by decide +kernel) (by decide +kernel)
theorem t15_4 : Ok 11824 (1267650600228202408372810610250) (261602177760337729990096) 47293 := ok_add t15_3 s13 (by decide +kernel) (by decide +kernel)
theorem t15_5 : Ok 44592 (1267650600227845483731708889584) (986583585139367828758954) 178365 := ok_add t15_4 s15 (by decide +kernel) (by decide +kernel)
theorem t15_6 : Ok 175664 (1267650600222271547702891764673) (3886509214649890029116156) 702653 := ok_add t15_5 s17 (by decide +kernel) (by decide +kernel)
theorem t15_7 : Ok 699952 (1267650600133636004158139448583) (15486211732336825189370647) 2799805 := ok_add t15_6 s19 (by decide +kernel) (by decide +kernel)
theorem t15_8 : Ok 1748528 (1267650599637933879843870150432) (38685616762849320012924384) 6994109 := ok_add t15_7 s20 (by decide +kernel) (by decide +kernel)
theorem u15 : (1 : Rat) + 1 / 4 ^ 15 ≤ (1152921505143717888 / 1152921504606846976) * (1152921505143717888 / 1152921504606846976) ∧ Cl ⟨1, 1 / 2 ^ 15⟩ (sc (1152921505143717888 / 1152921504606846976) (E wN 1748528)) (7453 / 1000000000000000) := by
  refine ⟨by decide +kernel, u_of t15_8 rfl (by decide +kernel) (d := 745221469 / 100000000000000000000) (by unfold Cl; decide +kernel) (by decide +kernel)⟩
theorem t16_0 : Ok 24 (1267650600228229401385492450315) (530992241732759648483) 93 := ok_add s3 s4 (by decide +kernel) (by decide +kernel)
theorem t16_1 : Ok 280 (1267650600228229386359683767965) (6194909486882195874486) 1117 := ok_add t16_0 s8 (by decide +kernel) (by decide +kernel)
theorem t16_2 : Ok 792 (1267650600228229280388190956216) (17522743977181067842406) 3165 := ok_add t16_1 s9 (by decide +kernel) (by decide +kernel)
theorem t16_3 : Ok 1816 (1267650600228228764765703544524) (40178412957778806675914) 7261 := ok_add t16_2 s10 (by decide +kernel) (by decide +kernel)
theorem t16_4 : Ok 5912 (1267650600228222653215730055170) (130801088880169561308765) 23645 := ok_add t16_3 s12 (by decide +kernel) (by decide +kernel)
theorem t16_5 : Ok 22296 (1267650600228133422055454617489) (493291792569721263685837) 89181 := ok_add t16_4 s14 (by decide +kernel) (by decide +kernel)
theorem t16_6 : Ok 87832 (1267650600226739938048249449252) (1943254607327228298854346) 351325 := ok_add t16_5 s16 (by decide +kernel) (by decide +kernel)
theorem t16_7 : Ok 349976 (1267650600204581052161841599848) (7743105866312862234381323) 1399901 := ok_add t16_6 s18 (by decide +kernel) (by decide +kernel)
theorem t16_8 : Ok 874264 (1267650600080655521074904807365) (19342808383676458168290463) 3497053 := ok_add t16_7 s19 (by decide +kernel) (by decide +kernel)
theorem u16 : (1 : Rat) + 1 / 4 ^ 16 ≤ (1152921504741064704 / 1152921504606846976) * (1152921504741064704 / 1152921504606846976) ∧ Cl ⟨1, 1 / 2 ^ 16⟩ (sc (1152921504741064704 / 1152921504606846976) (E wN 874264)) (3730 / 1000000000000000) := by
  refine ⟨by decide +kernel, u_of t16_8 rfl (by decide +kernel) (d := 372966006 / 100000000000000000000) (by unfold Cl; decide +kernel) (by decide +kernel)⟩
theorem t17_0 : Ok 12 (1267650600228229401468900516608) (265496120866379824247) 45 := ok_add s2 s3 (by decide +kernel) (by decide +kernel)
theorem t17_1 : Ok 140 (1267650600228229397712448345990) (3097454743441097946489) 557 := ok_add t17_0 s7 (by decide +kernel) (by decide +kernel)
theorem t17_2 : Ok 396 (1267650600228229371219575142992) (8761371988590534130463) 1581 := ok_add t17_1 s8 (by decide +kernel) (by decide +kernel)
theorem t17_3 : Ok 908 (1267650600228229242313953289947) (20089206478889405860619) 3629 := ok_add t17_2 s9 (by decide +kernel) (by decide +kernel)
theorem t17_4 : Ok 2956 (1267650600228227714426459917120) (65400544440084867693596) 11821 := ok_add t17_3 s11 (by decide +kernel) (by decide +kernel)
theorem t17_5 : Ok 11148 (1267650600228205406636391055524) (246645896284865300506213) 44589 := ok_add t17_4 s13 (by decide +kernel) (by decide +kernel)
theorem t17_6 : Ok 43916 (1267650600227857035634589701202) (971627303663899559964206) 175661 := ok_add t17_5 s15 (by decide +kernel) (by decide +kernel)
theorem t17_7 : Ok 174988 (1267650600222317314162973975905) (3871552933174487322152787) 699949 := ok_add t17_6 s17 (by decide +kernel) (by decide +kernel)
theorem t17_8 : Ok 437132 (1267650600191335931390716631443) (9671404192119703854386053) 1748525 := ok_add t17_7 s18 (by decide +kernel) (by decide +kernel)
theorem u17 : (1 : Rat) + 1 / 4 ^ 17 ≤ (1152921504640401408 / 1152921504606846976) * (1152921504640401408 / 1152921504606846976) ∧ Cl ⟨1, 1 / 2 ^ 17⟩ (sc (1152921504640401408 / 1152921504606846976) (E wN 437132)) (1866 / 1000000000000000) := by
  refine ⟨by decide +kernel, u_of t17_8 rfl (by decide +kernel) (d := 186527412 / 100000000000000000000) (by unfold Cl; decide +kernel) (by decide +kernel)⟩
theorem t18_0 : Ok 6 (1267650600228229401489752533183) (132748060433189912124) 21 := ok_add s1 s2 (by decide +kernel) (by decide +kernel)
theorem t18_1 : Ok 70 (1267650600228229400550639490513) (1548727371720548974400) 277 := ok_add t18_0 s6 (by decide +kernel) (by decide +kernel)
theorem t18_2 : Ok 198 (1267650600228229393927421189733) (4380685994295267091389) 789 := ok_add t18_1 s7 (by decide +kernel) (by decide +kernel)
theorem t18_3 : Ok 454 (1267650600228229361701015726411) (10044603239444703245642) 1813 := ok_add t18_2 s8 (by decide +kernel) (by decide +kernel)
theorem t18_4 : Ok 1478 (1267650600228228979729142382960) (32700272220042444726700) 5909 := ok_add t18_3 s10 (by decide +kernel) (by decide +kernel)
theorem t18_5 : Ok 5574 (1267650600228223402781625166572) (123322948142433233836018) 22293 := ok_add t18_4 s12 (by decide +kernel) (by decide +kernel)
theorem t18_6 : Ok 21958 (1267650600228136310031174820688) (485813651831985456299232) 87829 := ok_add t18_5 s14 (by decide +kernel) (by decide +kernel)
theorem t18_7 : Ok 87494 (1267650600226751379663270015531) (1935776466589500686696663) 349973 := ok_add t18_6 s16 (by decide +kernel) (by decide +kernel)
theorem t18_8 : Ok 218566 (1267650600219006033970172955472) (4835702096095036273473513) 874261 := ok_add t18_7 s17 (by decide +kernel) (by decide +kernel)
theorem u18 : (1 : Rat) + 1 / 4 ^ 18 ≤ (1152921504615235584 / 1152921504606846976) * (1152921504615235584 / 1152921504606846976) ∧ Cl ⟨1, 1 / 2 ^ 18⟩ (sc (1152921504615235584 / 1152921504606846976) (E wN 218566)) (933 / 1000000000000000) := by
  refine ⟨by decide +kernel, u_of t18_8 rfl (by decide +kernel) (d := 93269257 / 100000000000000000000) (by unfold Cl; decide +kernel) (by decide +kernel)⟩
theorem t19_0 : Ok 3 (1267650600228229401494965537327) (66374030216594956062) 9 := ok_add s0 s1 (by decide +kernel) (by decide +kernel)
theorem t19_1 : Ok 35 (1267650600228229401260187276652) (774363685860274487345) 137 := ok_add t19_0 s5 (by decide +kernel) (by decide +kernel)
theorem t19_2 : Ok 99 (1267650600228229399604382701442) (2190342997147633548965) 393 := ok_add t19_1 s6 (by decide +kernel) (by decide +kernel)
theorem t19_3 : Ok 227 (1267650600228229391547781335581) (5022301619722351662239) 905 := ok_add t19_2 s7 (by decide +kernel) (by decide +kernel)
theorem t19_4 : Ok 739 (1267650600228229296054812999597) (16350136110021223723339) 2953 := ok_add t19_3 s9 (by decide +kernel) (by decide +kernel)
theorem t19_5 : Ok 2787 (1267650600228227901817933695012) (61661474071216689865874) 11145 := ok_add t19_4 s11 (by decide +kernel) (by decide +kernel)
theorem t19_6 : Ok 10979 (1267650600228206128630321106378) (242906825915997187689258) 43913 := ok_add t19_5 s13 (by decide +kernel) (by decide +kernel)
theorem t19_7 : Ok 43747 (1267650600227859896038344843650) (967888233295032471550866) 174985 := ok_add t19_6 s15 (by decide +kernel) (by decide +kernel)
theorem t19_8 : Ok 109283 (1267650600225923559615068519740) (2417851048051916180021830) 437129 := ok_add t19_7 s16 (by decide +kernel) (by decide +kernel)
theorem u19 : (1 : Rat) + 1 / 4 ^ 19 ≤ (1152921504608944128 / 1152921504606846976) * (1152921504608944128 / 1152921504606846976) ∧ Cl ⟨1, 1 / 2 ^ 19⟩ (sc (1152921504608944128 / 1152921504606846976) (E wN 109283)) (467 / 1000000000000000) := by
  refine ⟨by decide +kernel, u_of t19_8 rfl (by decide +kernel) (d := 46635323 / 100000000000000000000) (by unfold Cl; decide +kernel) (by decide +kernel)⟩
theorem t20_0 : Ok 18 (1267650600228229401434147155652) (398244181299569736367) 69 := ok_add s1 s4 (by decide +kernel) (by decide +kernel)
theorem t20_1 : Ok 50 (1267650600228229401014017636561) (1106233836943249267564) 197 := ok_add t20_0 s5 (by decide +kernel) (by decide +kernel)
theorem t20_2 : Ok 114 (1267650600228229398987510544520) (2522213148230608328702) 453 := ok_add t20_1 s6 (by decide +kernel) (by decide +kernel)
theorem t20_3 : Ok 370 (1267650600228229375064841458219) (8186130393380044524115) 1477 := ok_add t20_2 s8 (by decide +kernel) (by decide +kernel)
theorem t20_4 : Ok 1394 (1267650600228229026307913622852) (30841799373977786540825) 5573 := ok_add t20_3 s10 (by decide +kernel) (by decide +kernel)
theorem t20_5 : Ok 5490 (1267650600228223582220178438798) (121464475296368583728984) 21957 := ok_add t20_4 s12 (by decide +kernel) (by decide +kernel)
theorem t20_6 : Ok 21874 (1267650600228137020908856222237) (483955178985920933487274) 87493 := ok_add t20_5 s14 (by decide +kernel) (by decide +kernel)
theorem t20_7 : Ok 54642 (1267650600227652930476380718502) (1208936586364877272883615) 218565 := ok_add t20_6 s15 (by decide +kernel) (by decide +kernel)
theorem u20 : (1 : Rat) + 1 / 4 ^ 20 ≤ (1152921504607371264 / 1152921504606846976) * (1152921504607371264 / 1152921504606846976) ∧ Cl ⟨1, 1 / 2 ^ 20⟩ (sc (1152921504607371264 / 1152921504606846976) (E wN 54642)) (8494 / 1000000000000000) := by
  refine ⟨by decide +kernel, u_of t20_7 rfl (by decide +kernel) (d := 849346879 / 100000000000000000000) (by unfold Cl; decide +kernel) (by decide +kernel)⟩
theorem t21_0 : Ok 9 (1267650600228229401481064192943) (199122090649784868186) 33 := ok_add s0 s3 (by decide +kernel) (by decide +kernel)
theorem t21_1 : Ok 25 (1267650600228229401376031813166) (553116918471624633835) 97 := ok_add t21_0 s4 (by decide +kernel) (by decide +kernel)
theorem t21_2 : Ok 57 (1267650600228229400869405040148) (1261106574115304164975) 225 := ok_add t21_1 s5 (by decide +kernel) (by decide +kernel)
theorem t21_3 : Ok 185 (1267650600228229394888737768542) (4093065196690022283394) 737 := ok_add t21_2 s7 (by decide +kernel) (by decide +kernel)
theorem t21_4 : Ok 697 (1267650600228229307699505809579) (15420899686988894411451) 2785 := ok_add t21_3 s9 (by decide +kernel) (by decide +kernel)
theorem t21_5 : Ok 2745 (1267650600228227946677572013077) (60732237648184361563841) 10977 := ok_add t21_4 s11 (by decide +kernel) (by decide +kernel)
theorem t21_6 : Ok 10937 (1267650600228206306349741456777) (241977589492964875299110) 43745 := ok_add t21_5 s13 (by decide +kernel) (by decide +kernel)
theorem t21_7 : Ok 27321 (1267650600228085283741622568962) (604468293182507357754618) 109281 := ok_add t21_6 s14 (by decide +kernel) (by decide +kernel)
theorem u21 : (1 : Rat) + 1 / 4 ^ 21 ≤ (1152921504606978048 / 1152921504606846976) * (1152921504606978048 / 1152921504606846976) ∧ Cl ⟨1, 1 / 2 ^ 21⟩ (sc (1152921504606978048 / 1152921504606846976) (E wN 27321)) (4247 / 1000000000000000) := by
  refine ⟨by decide +kernel, u_of t21_7 rfl (by decide +kernel) (d := 424673429 / 100000000000000000000) (by unfold Cl; decide +kernel) (by decide +kernel)⟩
theorem t22_0 : Ok 12 (1267650600228229401468900516608) (265496120866379824247) 45 := ok_add s2 s3 (by decide +kernel) (by decide +kernel)
theorem t22_1 : Ok 28 (1267650600228229401345333010990) (619490948688219589890) 109 := ok_add t22_0 s4 (by decide +kernel) (by decide +kernel)
theorem t22_2 : Ok 92 (1267650600228229399862522943635) (2035470259975578651701) 365 := ok_add t22_1 s6 (by decide +kernel) (by decide +kernel)
theorem t22_3 : Ok 348 (1267650600228229378114641956077) (7699387505125014855882) 1389 := ok_add t22_2 s8 (by decide +kernel) (by decide +kernel)
theorem t22_4 : Ok 1372 (1267650600228229038056866515684) (30355056485722757004835) 5485 := ok_add t22_3 s10 (by decide +kernel) (by decide +kernel)
theorem t22_5 : Ok 5468 (1267650600228223628765740911528) (120977732408113556276693) 21869 := ok_add t22_4 s12 (by decide +kernel) (by decide +kernel)
theorem t22_6 : Ok 13660 (1267650600228193374695375258939) (302223084252892836863138) 54637 := ok_add t22_5 s13 (by decide +kernel) (by decide +kernel)
theorem u22 : (1 : Rat) + 1 / 4 ^ 22 ≤ (1152921504606879744 / 1152921504606846976) * (1152921504606879744 / 1152921504606846976) ∧ Cl ⟨1, 1 / 2 ^ 22⟩ (sc (1152921504606879744 / 1152921504606846976) (E wN 13660)) (6604 / 1000000000000000) := by
  refine ⟨by decide +kernel, u_of t22_6 rfl (by decide +kernel) (d := 660327914 / 100000000000000000000) (by unfold Cl; decide +kernel) (by decide +kernel)⟩
theorem t23_0 : Ok 6 (1267650600228229401489752533183) (132748060433189912124) 21 := ok_add s1 s2 (by decide +kernel) (by decide +kernel)
theorem t23_1 : Ok 14 (1267650600228229401458860656776) (309745474344109794954) 53 := ok_add t23_0 s3 (by decide +kernel) (by decide +kernel)
theorem t23_2 : Ok 46 (1267650600228229401088158139929) (1017735129987789326179) 181 := ok_add t23_1 s5 (by decide +kernel) (by decide +kernel)
theorem t23_3 : Ok 174 (1267650600228229395651187893009) (3849693752562507445694) 693 := ok_add t23_2 s7 (by decide +kernel) (by decide +kernel)
theorem t23_4 : Ok 686 (1267650600228229310636744032789) (15177528242861379590281) 2741 := ok_add t23_3 s9 (by decide +kernel) (by decide +kernel)
theorem t23_5 : Ok 2734 (1267650600228227958313962631262) (60488866204056847003134) 10933 := ok_add t23_4 s11 (by decide +kernel) (by decide +kernel)
theorem t23_6 : Ok 6830 (1267650600228220394796371217108) (151111542126447492084181) 27317 := ok_add t23_5 s12 (by decide +kernel) (by decide +kernel)
theorem u23 : (1 : Rat) + 1 / 4 ^ 23 ≤ (1152921504606855168 / 1152921504606846976) * (1152921504606855168 / 1152921504606846976) ∧ Cl ⟨1, 1 / 2 ^ 23⟩ (sc (1152921504606855168 / 1152921504606846976) (E wN 6830)) (3302 / 1000000000000000) := by
  refine ⟨by decide +kernel, u_of t23_6 rfl (by decide +kernel) (d := 330163957 / 100000000000000000000) (by unfold Cl; decide +kernel) (by decide +kernel)⟩
theorem t24_0 : Ok 3 (1267650600228229401494965537327) (66374030216594956062) 9 := ok_add s0 s1 (by decide +kernel) (by decide +kernel)
theorem t24_1 : Ok 7 (1267650600228229401487242568225) (154872737172054897478) 25 := ok_add t24_0 s2 (by decide +kernel) (by decide +kernel)
theorem t24_2 : Ok 23 (1267650600228229401394566939009) (508867564993894663130) 89 := ok_add t24_1 s4 (by decide +kernel) (by decide +kernel)
theorem t24_3 : Ok 87 (1267650600228229400035324377264) (1924846876281253725065) 345 := ok_add t24_2 s6 (by decide +kernel) (by decide +kernel)
theorem t24_4 : Ok 343 (1267650600228229378781713412148) (7588764121430689931122) 1369 := ok_add t24_3 s8 (by decide +kernel) (by decide +kernel)
theorem t24_5 : Ok 1367 (1267650600228229040701018061522) (30244433102028432109664) 5465 := ok_add t24_4 s10 (by decide +kernel) (by decide +kernel)
theorem t24_6 : Ok 3415 (1267650600228227149821620207494) (75555771063223880248665) 13657 := ok_add t24_5 s11 (by decide +kernel) (by decide +kernel)
theorem u24 : (1 : Rat) + 1 / 4 ^ 24 ≤ (1152921504606849024 / 1152921504606846976) * (1152921504606849024 / 1152921504606846976) ∧ Cl ⟨1, 1 / 2 ^ 24⟩ (sc (1152921504606849024 / 1152921504606846976) (E wN 3415)) (1651 / 1000000000000000) := by
  refine ⟨by decide +kernel, u_of t24_6 rfl (by decide +kernel) (d := 165081979 / 100000000000000000000) (by unfold Cl; decide +kernel) (by decide +kernel)⟩
theorem t25_0 : Ok 12 (1267650600228229401468900516608) (265496120866379824247) 45 := ok_add s2 s3 (by decide +kernel) (by decide +kernel)
theorem t25_1 : Ok 44 (1267650600228229401122911500883) (973485776510059355484) 173 := ok_add t25_0 s5 (by decide +kernel) (by decide +kernel)
theorem t25_2 : Ok 172 (1267650600228229395784795258451) (3805444399084777475187) 685 := ok_add t25_1 s7 (by decide +kernel) (by decide +kernel)
theorem t25_3 : Ok 684 (1267650600228229311165767416184) (15133278889383649622735) 2733 := ok_add t25_2 s9 (by decide +kernel) (by decide +kernel)
theorem t25_4 : Ok 1708 (1267650600228228838248209943456) (37788947869981389387920) 6829 := ok_add t25_3 s10 (by decide +kernel) (by decide +kernel)
theorem u25 : (1 : Rat) + 1 / 4 ^ 25 ≤ (1152921504606847488 / 1152921504606846976) * (1152921504606847488 / 1152921504606846976) ∧ Cl ⟨1, 1 / 2 ^ 25⟩ (sc (1152921504606847488 / 1152921504606846976) (E wN 1708)) (7902 / 1000000000000000) := by
  refine ⟨by decide +kernel, u_of t25_4 rfl (by decide +kernel) (d := 790123637 / 100000000000000000000) (by unfold Cl; decide +kernel) (by decide +kernel)⟩
theorem q_0 : Ok 66560 (1267650600227374037566666522649) (1472618483738522202265172) 266237 := ok_add s10 s16 (by decide +kernel) (by decide +kernel)
theorem q_1 : Ok 197632 (1267650600220688229655304955666) (4372544113246694124319447) 790525 := ok_add q_0 s17 (by decide +kernel) (by decide +kernel)
theorem q_2 : Ok 721920 (1267650600127605198580515918322) (15972246630898792568142402) 2887677 := ok_add q_1 s19 (by decide +kernel) (by decide +kernel)
theorem q_3 : Ok 2819072 (1267650598693836283694085529934) (62371056678420476792234314) 11276285 := ok_add q_2 s21 (by decide +kernel) (by decide +kernel)
theorem q_4 : Ok 7013376 (1267650590731401868580192397895) (155168676460622806408432136) 28053501 := ok_add q_3 s22 (by decide +kernel) (by decide +kernel)
theorem q_5 : Ok 74122240 (1267649539458016181449234524176) (1639930141729151452095231466) 296488957 := ok_add q_4 s26 (by decide +kernel) (by decide +kernel)
theorem q_6 : Ok 342557696 (1267627943850840700440456394190) (7578933136011425294945901775) 1370230781 := ok_add q_5 s28 (by decide +kernel) (by decide +kernel)
theorem q_7 : Ok 879428608 (1267501280580031849772162522112) (19456309695562803476465416413) 3517714429 := ok_add q_6 s29 (by decide +kernel) (by decide +kernel)
theorem q_8 : Ok 1953170432 (1266914117560379980554439899444) (43204895384596983518343547560) 7812681725 := ok_add q_7 s30 (by decide +kernel) (by decide +kernel)
theorem q_9 : Ok 4100654080 (1264405372430558177907035414454) (90648212490549118070965306575) 16402616317 := ok_add q_8 s31 (by decide +kernel) (by decide +kernel)
theorem q_10 : Ok 21280523264 (1181215406579280402439798953159) (460074132633791494353654427787) 85122093053 := ok_add q_9 s34 (by decide +kernel) (by decide +kernel)
theorem q_11 : Ok 90000000000 (-23241722700) (1267650600228229401453861042904) 359999999997 := ok_add q_10 s36 (by decide +kernel) (by decide +kernel)
theorem quarter_near : Cl (E wN 90000000000) ⟨0, 1⟩ (1 / 1000000000000) := q_of q_11 rfl (d := 4 / 100000000000000000000) (by unfold Cl; decide +kernel) (by decide +kernel)
def T (j : Nat) : Int := [45000000000, 26565051177, 14036243468, 7125016349, 3576334375, 1789910608, 895173710, 447614171, 223810500, 111905677, 55952892, 27976453, 13988227, 6994114, 3497057, 1748528, 874264, 437132, 218566, 109283, 54642, 27321, 13660, 6830, 3415, 1708].getD j 0
def G (j : Nat) : Rat := ([1630477228166597777 / 1152921504606846976, 1289005428511123394 / 1152921504606846976, 1188404285385017078 / 1152921504606846976, 1161893791712071756 / 1152921504606846976, 1155171109681786797 / 1152921504606846976, 1153484317188382748 / 1152921504606846976, 1153062233506316129 / 1152921504606846976, 1152956688442081280 / 1152921504606846976, 1152930300666315008 / 1152921504606846976, 1152923703628005380 / 1152921504606846976, 1152922054362529793 / 1152921504606846976, 1152921642045792257 / 1152921504606846976, 1152921538966584833 / 1152921504606846976, 1152921513196781537 / 1152921504606846976, 1152921506754330623 / 1152921504606846976, 1152921505143717888 / 1152921504606846976, 1152921504741064704 / 1152921504606846976, 1152921504640401408 / 1152921504606846976, 1152921504615235584 / 1152921504606846976, 1152921504608944128 / 1152921504606846976, 1152921504607371264 / 1152921504606846976, 1152921504606978048 / 1152921504606846976, 1152921504606879744 / 1152921504606846976, 1152921504606855168 / 1152921504606846976, 1152921504606849024 / 1152921504606846976, 1152921504606847488 / 1152921504606846976] : List Rat).getD j 0
def Dl (j : Nat) : Rat := ([1 / 1000000000000000, 1522 / 1000000000000000, 1323 / 1000000000000000, 1728 / 1000000000000000, 47 / 1000000000000000, 4297 / 1000000000000000, 3685 / 1000000000000000, 2434 / 1000000000000000, 6433 / 1000000000000000, 1156 / 1000000000000000, 1854 / 1000000000000000, 6685 / 1000000000000000, 2483 / 1000000000000000, 5667 / 1000000000000000, 2606 / 1000000000000000, 7453 / 1000000000000000, 3730 / 1000000000000000, 1866 / 1000000000000000, 933 / 1000000000000000, 467 / 1000000000000000, 8494 / 1000000000000000, 4247 / 1000000000000000, 6604 / 1000000000000000, 3302 / 1000000000000000, 1651 / 1000000000000000, 7902 / 1000000000000000] : List Rat).getD j 0
theorem v0 : (1 : Rat) + 1 / 4 ^ 0 ≤ G 0 * G 0 ∧ Cl ⟨1, 1 / 2 ^ 0⟩ (sc (G 0) (E wN (T 0))) (Dl 0) := by
  have e1 : T 0 = 45000000000 := rfl
  have e2 : G 0 = 1630477228166597777 / 1152921504606846976 := rfl
  have e3 : Dl 0 = 1 / 1000000000000000 := rfl
  rw [e1, e2, e3]; exact u0
theorem v1 : (1 : Rat) + 1 / 4 ^ 1 ≤ G 1 * G 1 ∧ Cl ⟨1, 1 / 2 ^ 1⟩ (sc (G 1) (E wN (T 1))) (Dl 1) := by
  have e1 : T 1 = 26565051177 := rfl
  have e2 : G 1 = 1289005428511123394 / 1152921504606846976 := rfl
  have e3 : Dl 1 = 1522 / 1000000000000000 := rfl
  rw [e1, e2, e3]; exact u1
theorem v2 : (1 : Rat) + 1 / 4 ^ 2 ≤ G 2 * G 2 ∧ Cl ⟨1, 1 / 2 ^ 2⟩ (sc (G 2) (E wN (T 2))) (Dl 2) := by
  have e1 : T 2 = 14036243468 := rfl
  have e2 : G 2 = 1188404285385017078 / 1152921504606846976 := rfl
  have e3 : Dl 2 = 1323 / 1000000000000000 := rfl
  rw [e1, e2, e3]; exact u2
theorem v3 : (1 : Rat) + 1 / 4 ^ 3 ≤ G 3 * G 3 ∧ Cl ⟨1, 1 / 2 ^ 3⟩ (sc (G 3) (E wN (T 3))) (Dl 3) := by
  have e1 : T 3 = 7125016349 := rfl
  have e2 : G 3 = 1161893791712071756 / 1152921504606846976 := rfl
  have e3 : Dl 3 = 1728 / 1000000000000000 := rfl
  rw [e1, e2, e3]; exact u3
theorem v4 : (1 : Rat) + 1 / 4 ^ 4 ≤ G 4 * G 4 ∧ Cl ⟨1, 1 / 2 ^ 4⟩ (sc (G 4) (E wN (T 4))) (Dl 4) := by
  have e1 : T 4 = 3576334375 := rfl
  have e2 : G 4 = 1155171109681786797 / 1152921504606846976 := rfl
  have e3 : Dl 4 = 47 / 1000000000000000 := rfl
  rw [e1, e2, e3]; exact u4
theorem v5 : (1 : Rat) + 1 / 4 ^ 5 ≤ G 5 * G 5 ∧ Cl ⟨1, 1 / 2 ^ 5⟩ (sc (G 5) (E wN (T 5))) (Dl 5) := by
  have e1 : T 5 = 1789910608 := rfl
  have e2 : G 5 = 1153484317188382748 / 1152921504606846976 := rfl
  have e3 : Dl 5 = 4297 / 1000000000000000 := rfl
  rw [e1, e2, e3]; exact u5
theorem v6 : (1 : Rat) + 1 / 4 ^ 6 ≤ G 6 * G 6 ∧ Cl ⟨1, 1 / 2 ^ 6⟩ (sc (G 6) (E wN (T 6))) (Dl 6) := by
  have e1 : T 6 = 895173710 := rfl
  have e2 : G 6 = 1153062233506316129 / 1152921504606846976 := rfl
  have e3 : Dl 6 = 3685 / 1000000000000000 := rfl
  rw [e1, e2, e3]; exact u6
theorem v7 : (1 : Rat) + 1 / 4 ^ 7 ≤ G 7 * G 7 ∧ Cl ⟨1, 1 / 2 ^ 7⟩ (sc (G 7) (E wN (T 7))) (Dl 7) := by
  have e1 : T 7 = 447614171 := rfl
  have e2 : G 7 = 1152956688442081280 / 1152921504606846976 := rfl
  have e3 : Dl 7 = 2434 / 1000000000000000 := rfl
  rw [e1, e2, e3]; exact u7
theorem v8 : (1 : Rat) + 1 / 4 ^ 8 ≤ G 8 * G 8 ∧ Cl ⟨1, 1 / 2 ^ 8⟩ (sc (G 8) (E wN (T 8))) (Dl 8) := by
  have e1 : T 8 = 223810500 := rfl
  have e2 : G 8 = 1152930300666315008 / 1152921504606846976 := rfl
  have e3 : Dl 8 = 6433 / 1000000000000000 := rfl
  rw [e1, e2, e3]; exact u8
theorem v9 : (1 : Rat) + 1 / 4 ^ 9 ≤ G 9 * G 9 ∧ Cl ⟨1, 1 / 2 ^ 9⟩ (sc (G 9) (E wN (T 9))) (Dl 9) := by
  have e1 : T 9 = 111905677 := rfl
  have e2 : G 9 = 1152923703628005380 / 1152921504606846976 := rfl
  have e3 : Dl 9 = 1156 / 1000000000000000 := rfl
  rw [e1, e2, e3]; exact u9
theorem v10 : (1 : Rat) + 1 / 4 ^ 10 ≤ G 10 * G 10 ∧ Cl ⟨1, 1 / 2 ^ 10⟩ (sc (G 10) (E wN (T 10))) (Dl 10) := by
  have e1 : T 10 = 55952892 := rfl
  have e2 : G 10 = 1152922054362529793 / 1152921504606846976 := rfl
  have e3 : Dl 10 = 1854 / 1000000000000000 := rfl
  rw [e1, e2, e3]; exact u10
theorem v11 : (1 : Rat) + 1 / 4 ^ 11 ≤ G 11 * G 11 ∧ Cl ⟨1, 1 / 2 ^ 11⟩ (sc (G 11) (E wN (T 11))) (Dl 11) := by
  have e1 : T 11 = 27976453 := rfl
  have e2 : G 11 = 1152921642045792257 / 1152921504606846976 := rfl
  have e3 : Dl 11 = 6685 / 1000000000000000 := rfl
  rw [e1, e2, e3]; exact u11
theorem v12 : (1 : Rat) + 1 / 4 ^ 12 ≤ G 12 * G 12 ∧ Cl ⟨1, 1 / 2 ^ 12⟩ (sc (G 12) (E wN (T 12))) (Dl 12) := by
  have e1 : T 12 = 13988227 := rfl
  have e2 : G 12 = 1152921538966584833 / 1152921504606846976 := rfl
  have e3 : Dl 12 = 2483 / 1000000000000000 := rfl
  rw [e1, e2, e3]; exact u12
theorem v13 : (1 : Rat) + 1 / 4 ^ 13 ≤ G 13 * G 13 ∧ Cl ⟨1, 1 / 2 ^ 13⟩ (sc (G 13) (E wN (T 13))) (Dl 13) := by
  have e1 : T 13 = 6994114 := rfl
  have e2 : G 13 = 1152921513196781537 / 1152921504606846976 := rfl
  have e3 : Dl 13 = 5667 / 1000000000000000 := rfl
  rw [e1, e2, e3]; exact u13
theorem v14 : (1 : Rat) + 1 / 4 ^ 14 ≤ G 14 * G 14 ∧ Cl ⟨1, 1 / 2 ^ 14⟩ (sc (G 14) (E wN (T 14))) (Dl 14) := by
  have e1 : T 14 = 3497057 := rfl
  have e2 : G 14 = 1152921506754330623 / 1152921504606846976 := rfl
  have e3 : Dl 14 = 2606 / 1000000000000000 := rfl
  rw [e1, e2, e3]; exact u14
theorem v15 : (1 : Rat) + 1 / 4 ^ 15 ≤ G 15 * G 15 ∧ Cl ⟨1, 1 / 2 ^ 15⟩ (sc (G 15) (E wN (T 15))) (Dl 15) := by
  have e1 : T 15 = 1748528 := rfl
  have e2 : G 15 = 1152921505143717888 / 1152921504606846976 := rfl
  have e3 : Dl 15 = 7453 / 1000000000000000 := rfl
  rw [e1, e2, e3]; exact u15
theorem v16 : (1 : Rat) + 1 / 4 ^ 16 ≤ G 16 * G 16 ∧ Cl ⟨1, 1 / 2 ^ 16⟩ (sc (G 16) (E wN (T 16))) (Dl 16) := by
  have e1 : T 16 = 874264 := rfl
  have e2 : G 16 = 1152921504741064704 / 1152921504606846976 := rfl
  have e3 : Dl 16 = 3730 / 1000000000000000 := rfl
  rw [e1, e2, e3]; exact u16
theorem v17 : (1 : Rat) + 1 / 4 ^ 17 ≤ G 17 * G 17 ∧ Cl ⟨1, 1 / 2 ^ 17⟩ (sc (G 17) (E wN (T 17))) (Dl 17) := by
  have e1 : T 17 = 437132 := rfl
  have e2 : G 17 = 1152921504640401408 / 1152921504606846976 := rfl
  have e3 : Dl 17 = 1866 / 1000000000000000 := rfl
  rw [e1, e2, e3]; exact u17
theorem v18 : (1 : Rat) + 1 / 4 ^ 18 ≤ G 18 * G 18 ∧ Cl ⟨1, 1 / 2 ^ 18⟩ (sc (G 18) (E wN (T 18))) (Dl 18) := by
  have e1 : T 18 = 218566 := rfl
  have e2 : G 18 = 1152921504615235584 / 1152921504606846976 := rfl
  have e3 : Dl 18 = 933 / 1000000000000000 := rfl
  rw [e1, e2, e3]; exact u18
theorem v19 : (1 : Rat) + 1 / 4 ^ 19 ≤ G 19 * G 19 ∧ Cl ⟨1, 1 / 2 ^ 19⟩ (sc (G 19) (E wN (T 19))) (Dl 19) := by
  have e1 : T 19 = 109283 := rfl
  have e2 : G 19 = 1152921504608944128 / 1152921504606846976 := rfl
  have e3 : Dl 19 = 467 / 1000000000000000 := rfl
  rw [e1, e2, e3]; exact u19
theorem v20 : (1 : Rat) + 1 / 4 ^ 20 ≤ G 20 * G 20 ∧ Cl ⟨1, 1 / 2 ^ 20⟩ (sc (G 20) (E wN (T 20))) (Dl 20) := by
  have e1 : T 20 = 54642 := rfl
  have e2 : G 20 = 1152921504607371264 / 1152921504606846976 := rfl
  have e3 : Dl 20 = 8494 / 1000000000000000 := rfl
  rw [e1, e2, e3]; exact u20
theorem v21 : (1 : Rat) + 1 / 4 ^ 21 ≤ G 21 * G 21 ∧ Cl ⟨1, 1 / 2 ^ 21⟩ (sc (G 21) (E wN (T 21))) (Dl 21) := by
  have e1 : T 21 = 27321 := rfl
  have e2 : G 21 = 1152921504606978048 / 1152921504606846976 := rfl
  have e3 : Dl 21 = 4247 / 1000000000000000 := rfl
  rw [e1, e2, e3]; exact u21
theorem v22 : (1 : Rat) + 1 / 4 ^ 22 ≤ G 22 * G 22 ∧ Cl ⟨1, 1 / 2 ^ 22⟩ (sc (G 22) (E wN (T 22))) (Dl 22) := by
  have e1 : T 22 = 13660 := rfl
  have e2 : G 22 = 1152921504606879744 / 1152921504606846976 := rfl
  have e3 : Dl 22 = 6604 / 1000000000000000 := rfl
  rw [e1, e2, e3]; exact u22
theorem v23 : (1 : Rat) + 1 / 4 ^ 23 ≤ G 23 * G 23 ∧ Cl ⟨1, 1 / 2 ^ 23⟩ (sc (G 23) (E wN (T 23))) (Dl 23) := by
  have e1 : T 23 = 6830 := rfl
  have e2 : G 23 = 1152921504606855168 / 1152921504606846976 := rfl
  have e3 : Dl 23 = 3302 / 1000000000000000 := rfl
  rw [e1, e2, e3]; exact u23
theorem v24 : (1 : Rat) + 1 / 4 ^ 24 ≤ G 24 * G 24 ∧ Cl ⟨1, 1 / 2 ^ 24⟩ (sc (G 24) (E wN (T 24))) (Dl 24) := by
  have e1 : T 24 = 3415 := rfl
  have e2 : G 24 = 1152921504606849024 / 1152921504606846976 := rfl
  have e3 : Dl 24 = 1651 / 1000000000000000 := rfl
  rw [e1, e2, e3]; exact u24
theorem v25 : (1 : Rat) + 1 / 4 ^ 25 ≤ G 25 * G 25 ∧ Cl ⟨1, 1 / 2 ^ 25⟩ (sc (G 25) (E wN (T 25))) (Dl 25) := by
  have e1 : T 25 = 1708 := rfl
  have e2 : G 25 = 1152921504606847488 / 1152921504606846976 := rfl
  have e3 : Dl 25 = 7902 / 1000000000000000 := rfl
  rw [e1, e2, e3]; exact u25
theorem u_all (j : Nat) (hj : j < 26) : (1 : Rat) + 1 / 4 ^ j ≤ G j * G j ∧ Cl ⟨1, 1 / 2 ^ j⟩ (sc (G j) (E wN (T j))) (Dl j) := by
  match j, hj with
  | 0, _ => exact v0
  | 1, _ => exact v1
  | 2, _ => exact v2
  | 3, _ => exact v3
  | 4, _ => exact v4
  | 5, _ => exact v5
  | 6, _ => exact v6
  | 7, _ => exact v7
  | 8, _ => exact v8
  | 9, _ => exact v9
  | 10, _ => exact v10
  | 11, _ => exact v11
  | 12, _ => exact v12
  | 13, _ => exact v13
  | 14, _ => exact v14
  | 15, _ => exact v15
  | 16, _ => exact v16
  | 17, _ => exact v17
  | 18, _ => exact v18
  | 19, _ => exact v19
  | 20, _ => exact v20
  | 21, _ => exact v21
  | 22, _ => exact v22
  | 23, _ => exact v23
  | 24, _ => exact v24
  | 25, _ => exact v25
  | n + 26, h => omega
end Cx
