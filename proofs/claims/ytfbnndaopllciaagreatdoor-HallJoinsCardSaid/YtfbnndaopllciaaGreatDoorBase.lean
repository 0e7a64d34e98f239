/- The program's functions as a table, and that the evaluator is sound over it. (Printed by a program.) -/
import Derived.Test.YtfbnndaopllciaaGreatDoorChecked
import Derived.Test.YtfbnndaopllciaaGreatDoorEngH
namespace Go.Proofs.YtfbnndaopllciaaGreatDoor
open Go Go.Eng
noncomputable def tab : T Func :=
  (.node (.node (.node (.node (.node (.node (.node (.node (.node .leaf (some Tryz.f255) .leaf) (some Tryz.f127) (.node .leaf (some Tryz.f383) .leaf)) (some Tryz.f63) (.node (.node .leaf (some Tryz.f319) 
  .leaf) (some Tryz.f191) .leaf)) (some Tryz.f31) (.node (.node (.node .leaf (some Tryz.f287) .leaf) (some Tryz.f159) (.node .leaf (some Tryz.f415) .leaf)) (some Tryz.f95) (.node (.node .leaf (some 
  Tryz.f351) .leaf) (some Tryz.f223) .leaf))) (some Tryz.f15) (.node (.node (.node (.node .leaf (some Tryz.f271) .leaf) (some Tryz.f143) (.node .leaf (some Tryz.f399) .leaf)) (some Tryz.f79) (.node 
  (.node .leaf (some Tryz.f335) .leaf) (some Tryz.f207) .leaf)) (some Tryz.f47) (.node (.node .leaf (some Tryz.f175) .leaf) (some Tryz.f111) (.node (.node .leaf (some Tryz.f367) .leaf) (some Tryz.f239) 
  .leaf)))) (some Tryz.f7) (.node (.node (.node (.node (.node .leaf (some Tryz.f263) .leaf) (some Tryz.f135) .leaf) (some Tryz.f71) (.node (.node .leaf (some Tryz.f327) .leaf) (some Tryz.f199) .leaf)) 
  (some Tryz.f39) (.node (.node (.node .leaf (some Tryz.f295) .leaf) (some Tryz.f167) .leaf) (some Tryz.f103) (.node (.node .leaf (some Tryz.f359) .leaf) (some Tryz.f231) .leaf))) (some Tryz.f23) (.node 
  (.node (.node (.node .leaf (some Tryz.f279) .leaf) (some Tryz.f151) (.node .leaf (some Tryz.f407) .leaf)) (some Tryz.f87) (.node (.node .leaf (some Tryz.f343) .leaf) (some Tryz.f215) .leaf)) (some 
  Tryz.f55) (.node (.node (.node .leaf (some Tryz.f311) .leaf) (some Tryz.f183) .leaf) (some Tryz.f119) (.node (.node .leaf (some Tryz.f375) .leaf) (some Tryz.f247) .leaf))))) (some Tryz.f3) (.node 
  (.node (.node (.node (.node .leaf (some Tryz.f131) (.node .leaf (some Tryz.f387) .leaf)) (some Tryz.f67) (.node (.node .leaf (some Tryz.f323) .leaf) (some Tryz.f195) .leaf)) (some Tryz.f35) (.node 
  (.node (.node .leaf (some Tryz.f291) .leaf) (some Tryz.f163) (.node .leaf (some Tryz.f419) .leaf)) (some Tryz.f99) (.node (.node .leaf (some Tryz.f355) .leaf) (some Tryz.f227) .leaf))) (some Tryz.f19) 
  (.node (.node (.node (.node .leaf (some Tryz.f275) .leaf) (some Tryz.f147) (.node .leaf (some Tryz.f403) .leaf)) (some Tryz.f83) (.node (.node .leaf (some Tryz.f339) .leaf) (some Tryz.f211) .leaf)) 
  (some Tryz.f51) (.node (.node (.node .leaf (some Tryz.f307) .leaf) (some Tryz.f179) .leaf) (some Tryz.f115) (.node (.node .leaf (some Tryz.f371) .leaf) (some Tryz.f243) .leaf)))) (some Tryz.f11) 
  (.node (.node (.node (.node (.node .leaf (some Tryz.f267) .leaf) (some Tryz.f139) (.node .leaf (some Tryz.f395) .leaf)) (some Tryz.f75) (.node (.node .leaf (some Tryz.f331) .leaf) (some Tryz.f203) 
  .leaf)) (some Tryz.f43) (.node (.node (.node .leaf (some Tryz.f299) .leaf) (some Tryz.f171) .leaf) (some Tryz.f107) (.node (.node .leaf (some Tryz.f363) .leaf) (some Tryz.f235) .leaf))) (some 
  Tryz.f27) (.node (.node (.node (.node .leaf (some Tryz.f283) .leaf) (some Tryz.f155) (.node .leaf (some Tryz.f411) .leaf)) (some Tryz.f91) (.node (.node .leaf (some Tryz.f347) .leaf) (some Tryz.f219) 
  .leaf)) (some Tryz.f59) (.node (.node (.node .leaf (some Tryz.f315) .leaf) (some Tryz.f187) .leaf) (some Tryz.f123) (.node (.node .leaf (some Tryz.f379) .leaf) (some Tryz.f251) .leaf)))))) none (.node 
  (.node (.node (.node (.node (.node (.node .leaf (some Tryz.f257) .leaf) (some Tryz.f129) (.node .leaf (some Tryz.f385) .leaf)) (some Tryz.f65) (.node (.node .leaf (some Tryz.f321) .leaf) (some 
  Tryz.f193) .leaf)) (some Tryz.f33) (.node (.node (.node .leaf (some Tryz.f289) .leaf) (some Tryz.f161) (.node .leaf (some Tryz.f417) .leaf)) (some Tryz.f97) (.node (.node .leaf (some Tryz.f353) .leaf) 
  (some Tryz.f225) .leaf))) (some Tryz.f17) (.node (.node (.node (.node .leaf (some Tryz.f273) .leaf) (some Tryz.f145) (.node .leaf (some Tryz.f401) .leaf)) (some Tryz.f81) (.node (.node .leaf (some 
  Tryz.f337) .leaf) (some Tryz.f209) .leaf)) (some Tryz.f49) (.node (.node .leaf (some Tryz.f177) .leaf) (some Tryz.f113) (.node (.node .leaf (some Tryz.f369) .leaf) (some Tryz.f241) .leaf)))) (some 
  Tryz.f9) (.node (.node (.node (.node (.node .leaf (some Tryz.f265) .leaf) (some Tryz.f137) (.node .leaf (some Tryz.f393) .leaf)) (some Tryz.f73) (.node (.node .leaf (some Tryz.f329) .leaf) (some 
  Tryz.f201) (.node .leaf (some Tryz.f457) .leaf))) (some Tryz.f41) (.node (.node (.node .leaf (some Tryz.f297) .leaf) (some Tryz.f169) .leaf) (some Tryz.f105) (.node (.node .leaf (some Tryz.f361) 
  .leaf) (some Tryz.f233) .leaf))) (some Tryz.f25) (.node (.node (.node (.node .leaf (some Tryz.f281) .leaf) (some Tryz.f153) (.node .leaf (some Tryz.f409) .leaf)) (some Tryz.f89) (.node (.node .leaf 
  (some Tryz.f345) .leaf) (some Tryz.f217) .leaf)) (some Tryz.f57) (.node (.node (.node .leaf (some Tryz.f313) .leaf) (some Tryz.f185) .leaf) (some Tryz.f121) (.node (.node .leaf (some Tryz.f377) .leaf) 
  (some Tryz.f249) .leaf))))) (some Tryz.f5) (.node (.node (.node (.node (.node (.node .leaf (some Tryz.f261) .leaf) (some Tryz.f133) (.node .leaf (some Tryz.f389) .leaf)) (some Tryz.f69) (.node (.node 
  .leaf (some Tryz.f325) .leaf) (some Tryz.f197) .leaf)) (some Tryz.f37) (.node (.node (.node .leaf (some Tryz.f293) .leaf) (some Tryz.f165) .leaf) (some Tryz.f101) (.node (.node .leaf (some Tryz.f357) 
  .leaf) (some Tryz.f229) .leaf))) (some Tryz.f21) (.node (.node (.node (.node .leaf (some Tryz.f277) .leaf) (some Tryz.f149) (.node .leaf (some Tryz.f405) .leaf)) (some Tryz.f85) (.node .leaf (some 
  Tryz.f213) .leaf)) (some Tryz.f53) (.node (.node (.node .leaf (some Tryz.f309) .leaf) (some Tryz.f181) .leaf) (some Tryz.f117) (.node (.node .leaf (some Tryz.f373) .leaf) (some Tryz.f245) .leaf)))) 
  (some Tryz.f13) (.node (.node (.node (.node (.node .leaf (some Tryz.f269) .leaf) (some Tryz.f141) (.node .leaf (some Tryz.f397) .leaf)) (some Tryz.f77) (.node (.node .leaf (some Tryz.f333) .leaf) 
  (some Tryz.f205) .leaf)) (some Tryz.f45) (.node (.node (.node .leaf (some Tryz.f301) .leaf) (some Tryz.f173) .leaf) (some Tryz.f109) (.node (.node .leaf (some Tryz.f365) .leaf) (some Tryz.f237) 
  .leaf))) (some Tryz.f29) (.node (.node (.node (.node .leaf (some Tryz.f285) .leaf) (some Tryz.f157) (.node .leaf (some Tryz.f413) .leaf)) (some Tryz.f93) (.node (.node .leaf (some Tryz.f349) .leaf) 
  (some Tryz.f221) .leaf)) (some Tryz.f61) (.node (.node (.node .leaf (some Tryz.f317) .leaf) (some Tryz.f189) .leaf) (some Tryz.f125) (.node (.node .leaf (some Tryz.f381) .leaf) (some Tryz.f253) 
  .leaf))))))) none (.node (.node (.node (.node (.node (.node (.node (.node .leaf (some Tryz.f256) .leaf) (some Tryz.f128) (.node .leaf (some Tryz.f384) .leaf)) (some Tryz.f64) (.node (.node .leaf (some 
  Tryz.f320) .leaf) (some Tryz.f192) .leaf)) (some Tryz.f32) (.node (.node (.node .leaf (some Tryz.f288) .leaf) (some Tryz.f160) (.node .leaf (some Tryz.f416) .leaf)) (some Tryz.f96) (.node (.node .leaf 
  (some Tryz.f352) .leaf) (some Tryz.f224) .leaf))) (some Tryz.f16) (.node (.node (.node (.node .leaf (some Tryz.f272) .leaf) (some Tryz.f144) (.node .leaf (some Tryz.f400) .leaf)) (some Tryz.f80) 
  (.node (.node .leaf (some Tryz.f336) .leaf) (some Tryz.f208) .leaf)) (some Tryz.f48) (.node (.node (.node .leaf (some Tryz.f304) .leaf) (some Tryz.f176) .leaf) (some Tryz.f112) (.node (.node .leaf 
  (some Tryz.f368) .leaf) (some Tryz.f240) .leaf)))) (some Tryz.f8) (.node (.node (.node (.node (.node .leaf (some Tryz.f264) .leaf) (some Tryz.f136) (.node .leaf (some Tryz.f392) .leaf)) (some 
  Tryz.f72) (.node (.node .leaf (some Tryz.f328) .leaf) (some Tryz.f200) .leaf)) (some Tryz.f40) (.node (.node (.node .leaf (some Tryz.f296) .leaf) (some Tryz.f168) .leaf) (some Tryz.f104) (.node (.node 
  .leaf (some Tryz.f360) .leaf) (some Tryz.f232) .leaf))) (some Tryz.f24) (.node (.node (.node (.node .leaf (some Tryz.f280) .leaf) (some Tryz.f152) (.node .leaf (some Tryz.f408) .leaf)) (some Tryz.f88) 
  (.node (.node .leaf (some Tryz.f344) .leaf) (some Tryz.f216) .leaf)) (some Tryz.f56) (.node (.node (.node .leaf (some Tryz.f312) .leaf) (some Tryz.f184) .leaf) (some Tryz.f120) (.node (.node .leaf 
  (some Tryz.f376) .leaf) (some Tryz.f248) .leaf))))) (some Tryz.f4) (.node (.node (.node (.node (.node (.node .leaf (some Tryz.f260) .leaf) (some Tryz.f132) (.node .leaf (some Tryz.f388) .leaf)) (some 
  Tryz.f68) (.node (.node .leaf (some Tryz.f324) .leaf) (some Tryz.f196) .leaf)) (some Tryz.f36) (.node (.node .leaf (some Tryz.f164) (.node .leaf (some Tryz.f420) .leaf)) (some Tryz.f100) (.node .leaf 
  (some Tryz.f228) .leaf))) (some Tryz.f20) (.node (.node (.node (.node .leaf (some Tryz.f276) .leaf) (some Tryz.f148) (.node .leaf (some Tryz.f404) .leaf)) (some Tryz.f84) (.node (.node .leaf (some 
  Tryz.f340) .leaf) (some Tryz.f212) .leaf)) (some Tryz.f52) (.node (.node (.node .leaf (some Tryz.f308) .leaf) (some Tryz.f180) .leaf) (some Tryz.f116) (.node (.node .leaf (some Tryz.f372) .leaf) (some 
  Tryz.f244) .leaf)))) (some Tryz.f12) (.node (.node (.node (.node (.node .leaf (some Tryz.f268) .leaf) (some Tryz.f140) (.node .leaf (some Tryz.f396) .leaf)) (some Tryz.f76) (.node (.node .leaf (some 
  Tryz.f332) .leaf) (some Tryz.f204) .leaf)) (some Tryz.f44) (.node (.node (.node .leaf (some Tryz.f300) .leaf) (some Tryz.f172) .leaf) (some Tryz.f108) (.node (.node .leaf (some Tryz.f364) .leaf) (some 
  Tryz.f236) .leaf))) (some Tryz.f28) (.node (.node (.node (.node .leaf (some Tryz.f284) .leaf) (some Tryz.f156) (.node .leaf (some Tryz.f412) .leaf)) (some Tryz.f92) (.node (.node .leaf (some 
  Tryz.f348) .leaf) (some Tryz.f220) .leaf)) (some Tryz.f60) (.node (.node (.node .leaf (some Tryz.f316) .leaf) (some Tryz.f188) .leaf) (some Tryz.f124) (.node .leaf (some Tryz.f252) .leaf)))))) (some 
  Tryz.f2) (.node (.node (.node (.node (.node (.node (.node .leaf (some Tryz.f258) .leaf) (some Tryz.f130) (.node .leaf (some Tryz.f386) .leaf)) (some Tryz.f66) (.node (.node .leaf (some Tryz.f322) 
  .leaf) (some Tryz.f194) .leaf)) (some Tryz.f34) (.node (.node (.node .leaf (some Tryz.f290) .leaf) (some Tryz.f162) (.node .leaf (some Tryz.f418) .leaf)) (some Tryz.f98) (.node (.node .leaf (some 
  Tryz.f354) .leaf) (some Tryz.f226) .leaf))) (some Tryz.f18) (.node (.node (.node (.node .leaf (some Tryz.f274) .leaf) (some Tryz.f146) (.node .leaf (some Tryz.f402) .leaf)) (some Tryz.f82) (.node 
  (.node .leaf (some Tryz.f338) .leaf) (some Tryz.f210) .leaf)) (some Tryz.f50) (.node (.node (.node .leaf (some Tryz.f306) .leaf) (some Tryz.f178) .leaf) (some Tryz.f114) (.node (.node .leaf (some 
  Tryz.f370) .leaf) (some Tryz.f242) .leaf)))) (some Tryz.f10) (.node (.node (.node (.node (.node .leaf (some Tryz.f266) .leaf) (some Tryz.f138) (.node .leaf (some Tryz.f394) .leaf)) (some Tryz.f74) 
  (.node (.node .leaf (some Tryz.f330) .leaf) (some Tryz.f202) .leaf)) (some Tryz.f42) (.node (.node (.node .leaf (some Tryz.f298) .leaf) (some Tryz.f170) .leaf) (some Tryz.f106) (.node (.node .leaf 
  (some Tryz.f362) .leaf) (some Tryz.f234) .leaf))) (some Tryz.f26) (.node (.node (.node (.node .leaf (some Tryz.f282) .leaf) (some Tryz.f154) (.node .leaf (some Tryz.f410) .leaf)) (some Tryz.f90) 
  (.node (.node .leaf (some Tryz.f346) .leaf) (some Tryz.f218) .leaf)) (some Tryz.f58) (.node (.node (.node .leaf (some Tryz.f314) .leaf) (some Tryz.f186) .leaf) (some Tryz.f122) (.node (.node .leaf 
  (some Tryz.f378) .leaf) (some Tryz.f250) .leaf))))) (some Tryz.f6) (.node (.node (.node (.node (.node (.node .leaf (some Tryz.f262) .leaf) (some Tryz.f134) (.node .leaf (some Tryz.f390) .leaf)) (some 
  Tryz.f70) (.node (.node .leaf (some Tryz.f326) .leaf) (some Tryz.f198) .leaf)) (some Tryz.f38) (.node (.node (.node .leaf (some Tryz.f294) .leaf) (some Tryz.f166) .leaf) (some Tryz.f102) (.node (.node 
  .leaf (some Tryz.f358) .leaf) (some Tryz.f230) .leaf))) (some Tryz.f22) (.node (.node (.node .leaf (some Tryz.f150) (.node .leaf (some Tryz.f406) .leaf)) (some Tryz.f86) (.node (.node .leaf (some 
  Tryz.f342) .leaf) (some Tryz.f214) .leaf)) (some Tryz.f54) (.node (.node (.node .leaf (some Tryz.f310) .leaf) (some Tryz.f182) .leaf) (some Tryz.f118) (.node (.node .leaf (some Tryz.f374) .leaf) (some 
  Tryz.f246) .leaf)))) (some Tryz.f14) (.node (.node (.node (.node (.node .leaf (some Tryz.f270) .leaf) (some Tryz.f142) (.node .leaf (some Tryz.f398) .leaf)) (some Tryz.f78) (.node (.node .leaf (some 
  Tryz.f334) .leaf) (some Tryz.f206) .leaf)) (some Tryz.f46) (.node (.node (.node .leaf (some Tryz.f302) .leaf) (some Tryz.f174) .leaf) (some Tryz.f110) (.node (.node .leaf (some Tryz.f366) .leaf) (some 
  Tryz.f238) .leaf))) (some Tryz.f30) (.node (.node (.node (.node .leaf (some Tryz.f286) .leaf) (some Tryz.f158) (.node .leaf (some Tryz.f414) .leaf)) (some Tryz.f94) (.node .leaf (some Tryz.f222) 
  .leaf)) (some Tryz.f62) (.node (.node (.node .leaf (some Tryz.f318) .leaf) none .leaf) (some Tryz.f126) (.node (.node .leaf (some Tryz.f382) .leaf) (some Tryz.f254) .leaf)))))))) 

noncomputable def ext : T AnsF := (((((((((T.leaf.set 259 exIdx).set 292 exCnt).set 341 exSame).set 190 (exApart Tryz.prog 134)).set 278 (exApart Tryz.prog 58)).set 303 (exApart Tryz.prog 126)).set 305 (exApart Tryz.prog 201)).set 350 (exApart Tryz.prog 94)).set 391 (exApart Tryz.prog 33))
noncomputable def two : T Unit := (((((T.leaf.set 117 ()).set 283 ()).set 361 ()).set 209 ()).set 231 ()).set 232 ()
noncomputable def free : T Unit := (((T.leaf.set 173 ()).set 284 ()).set 249 ()).set 112 ()
noncomputable def tb0 : Tabs := ⟨tab, .leaf, ext, two, free⟩
noncomputable def kindsL : List Nat := [0, 68, 68, 68, 68, 68, 68, 64, 68, 68, 0, 68, 68, 0, 68, 68, 68, 68, 68, 68, 68, 68, 68, 68, 68, 68, 68, 68, 68, 68, 68, 68, 64, 100, 108, 108, 108, 108, 108, 108, 108, 108, 100, 108, 72, 126, 124, 108, 126, 126, 126, 126, 126, 126, 126, 126, 126, 126, 112, 108, 108, 108, 108, 100, 100, 127, 127, 127, 127, 127, 127, 127, 127, 127, 127, 127, 127, 127, 127, 127, 127, 127, 127, 127, 127, 127, 127, 127, 127, 127, 127, 111, 111, 111, 111, 111, 111, 127, 127, 127, 127, 127, 127, 127, 127, 127, 127, 127, 127, 127, 127, 127, 127, 127, 127, 127, 127, 127, 127, 127, 127, 127, 127, 111, 111, 111, 108, 68, 68, 68, 68, 68, 68, 68, 68, 68, 68, 68, 68, 68, 68, 68, 68, 68, 68, 68, 68, 68, 68, 68, 68, 68, 68, 68, 68, 68, 68, 68, 68, 68, 68, 68, 68, 68, 68, 68, 68, 68, 68, 68, 68, 68, 68, 68, 68, 68, 68, 68, 68, 68, 68, 68, 68, 68, 68, 68, 68, 68, 68, 68, 68, 68, 68, 68, 68, 68, 68, 68, 68, 68, 68, 68, 68, 68, 68, 68, 68, 68, 68, 68, 68, 68, 68, 68, 68, 68, 68, 68, 68, 68, 68, 68, 68, 68, 68, 68, 68, 68, 68, 68, 68, 68, 68, 68, 68, 68, 68, 68, 68, 68, 68, 68, 68, 68, 68, 68, 68, 68, 68, 68, 68, 68, 68, 68, 68, 68]
noncomputable def kindsV : AV := .agg (List.rec (motive := fun _ => List AV) [] (fun n _ ih => .int .u16 (Int.ofNat n) :: ih) kindsL)
noncomputable def sumA : T Sum := T.leaf.set 113 (constS kindsV)
noncomputable def tbA : Tabs := ⟨tab, sumA, ext, two, free⟩
noncomputable def isT (x : Option (AV × St)) : Bool := match x with | some (.bool b, _) => b | _ => false

def rho : Rho := ⟨fun _ => default, fun e => Tryz.prog.underlying e = some (.int .u8)⟩
instance rhoOk : RhoOk Tryz.prog rho := ⟨fun _ => Iff.rfl⟩
theorem mix : Tryz.prog.follows .mixedOrders = true := by kernel_rfl
set_option maxHeartbeats 0 in
theorem tab_is : bodiesF Tryz.prog.funcs.toList 0 .leaf = tab := by kernel_rfl
theorem noGors : noGor Tryz.prog.funcs.toList = true := by kernel_rfl
theorem tabs : TabOk Tryz.prog tab := tab_is ▸ tabOk_bodies noGors
theorem exts : ∀ f g, ext.get f = some g → ExtOk Tryz.prog rho f g := by
  intro f g h
  unfold ext at h
  simp only [T.get_set, T.get_leaf] at h
  split at h
  · rename_i e; subst e; cases h; exact exApart_ok (tR := 4) (by kernel_rfl : Tryz.prog.funcs[391]? = some Tryz.f391) (by kernel_rfl) (by kernel_rfl) (by kernel_rfl) (by kernel_rfl)
  split at h
  · rename_i e; subst e; cases h; exact exApart_ok (tR := 4) (by kernel_rfl : Tryz.prog.funcs[350]? = some Tryz.f350) (by kernel_rfl) (by kernel_rfl) (by kernel_rfl) (by kernel_rfl)
  split at h
  · rename_i e; subst e; cases h; exact exApart_ok (tR := 4) (by kernel_rfl : Tryz.prog.funcs[305]? = some Tryz.f305) (by kernel_rfl) (by kernel_rfl) (by kernel_rfl) (by kernel_rfl)
  split at h
  · rename_i e; subst e; cases h; exact exApart_ok (tR := 4) (by kernel_rfl : Tryz.prog.funcs[303]? = some Tryz.f303) (by kernel_rfl) (by kernel_rfl) (by kernel_rfl) (by kernel_rfl)
  split at h
  · rename_i e; subst e; cases h; exact exApart_ok (tR := 4) (by kernel_rfl : Tryz.prog.funcs[278]? = some Tryz.f278) (by kernel_rfl) (by kernel_rfl) (by kernel_rfl) (by kernel_rfl)
  split at h
  · rename_i e; subst e; cases h; exact exApart_ok (tR := 4) (by kernel_rfl : Tryz.prog.funcs[190]? = some Tryz.f190) (by kernel_rfl) (by kernel_rfl) (by kernel_rfl) (by kernel_rfl)
  split at h
  · rename_i e; subst e; cases h; exact exSame_ok (by kernel_rfl : Tryz.prog.funcs[341]? = some Tryz.f341) (by kernel_rfl) (by kernel_rfl) (by kernel_rfl) (by kernel_rfl)
  split at h
  · rename_i e; subst e; cases h; exact exCnt_ok (by kernel_rfl : Tryz.prog.funcs[292]? = some Tryz.f292) (by kernel_rfl) (by kernel_rfl) (by kernel_rfl) (by kernel_rfl)
  split at h
  · rename_i e; subst e; cases h; exact exIdx_ok (by kernel_rfl : Tryz.prog.funcs[259]? = some Tryz.f259) (by kernel_rfl) (by kernel_rfl) (by kernel_rfl) (by kernel_rfl)
  · cases h
theorem tok {sum : T Sum} (h : SumOk Tryz.prog rho sum) : TabsOk Tryz.prog rho ⟨tab, sum, ext, two, free⟩ := ⟨tabs, h, exts⟩
theorem runs {sum : T Sum} (h : SumOk Tryz.prog rho sum) : CallFOk Tryz.prog rho (runK Tryz.prog ⟨tab, sum, ext, two, free⟩ 400) := runK_ok mix (tok h) 400
end Go.Proofs.YtfbnndaopllciaaGreatDoor
