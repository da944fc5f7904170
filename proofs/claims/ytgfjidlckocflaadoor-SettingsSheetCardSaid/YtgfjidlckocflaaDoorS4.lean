/- A part of what the law's proof leans on. PACKED BY pack.py of this repo. -/
import Derived.Test.YtgfjidlckocflaaDoorS3
set_option linter.unusedVariables false
set_option linter.unusedSimpArgs false
set_option linter.defProp false
set_option linter.unusedSectionVars false
section
namespace Go.Proofs.YtgfjidlckocflaaDoor.PAll
set_option maxRecDepth 100000
open Go.RowKit Go.Proofs.YtgfjidlckocflaaDoorW.PrintWords Go.Proofs.YtgfjidlckocflaaDoorW.PrintLast Go.Proofs.YtgfjidlckocflaaDoorW.PrintMore
attribute [local go_sem] BM BK BV BU BD BC BL BJ
def Aj.l0:Nat→List ByteArray→List ByteArray→Int→Option (Bool)
 |0,_,_,_=>none
 |k+1,x0,x1,x5=>if x5<(x0.length:Int) then (if 0≤x5 then (if x5<(x1.length:Int) then (if (rdOf ByteArray.empty x0 x5).toList=(rdOf ByteArray.empty x1 x5).toList then (Aj.l0 k x0 x1 (wrap64 (x5+1))) else (some false)) else (none)) else (none)) else (some true)
def Aj.f (k:Nat) (l0:List ByteArray) (l1:List ByteArray):Option (Bool):=if (l0.length:Int)=(l1.length:Int) then (Aj.l0 k l0 l1 0) else (some false)
set_option maxHeartbeats 8000000 in
theorem Aj.calls (k:Nat) (A0:Option Addr) (c0:Nat) (l0:List ByteArray) (A1:Option Addr) (c1:Nat) (l1:List ByteArray) (r:Bool) (w:World) (hr0:Kd.C Kd.string w A0 l0.length l0) (hc0:l0.length≤c0) (hr1:Kd.C Kd.string w A1 l1.length l1) (hc1:l1.length≤c1) (h:Aj.f k l0 l1=some r):
  Calls Tryd.prog 31 #[.slice A0 l0.length c0,.slice A1 l1.length c1] w fun e w'=>e= .returned (.bool r)∧Drawn0 w w':=by
 have HR0:=Aside0.mk hr0
 have HC0:=Aside0.mk hc0
 clear hr0 hc0
 have HR1:=Aside0.mk hr1
 have HC1:=Aside0.mk hc1
 clear hr1 hc1
 have H:(if (l0.length:Int)=(l1.length:Int) then (Aj.l0 k l0 l1 0) else (some false))=some r:=h
 clear h
 by_cases c3:(l0.length:Int)=(l1.length:Int)
 ·rw [if_pos c3] at H
  have c3b0:((l0.length:Int)==(l1.length:Int))=true:=beq_iff_eq.mpr c3
  have c3b1:((l0.length:Int) !=(l1.length:Int))=false:=bne_eq_false_iff_eq.mpr c3
  have c3b2:(l0.length==l1.length)=true:=by first|simpa using c3|(simp at c3 ⊢; omega)
  clear c3
  have H':=Aside0.mk H
  clear H
  go_enter Tryd.func31,Tryd.ntmps31
  go_wp2
  repeat (go_quiet (fail); try go_wp2)
  go_loopg [5] k (fun kq v5 w'=>∃(x5_1:Int),v5= .int .i64 x5_1∧Aside0 (Aj.l0 kq l0 l1 x5_1=some r)∧Aside0 (kq≤k)∧Drawn0 w w')
  case atStart=>exact ⟨(0),(by first|rfl|(simp; done)|(simp [*]; done)),H',⟨Nat.le_refl _⟩,by repeat (first|exact Drawn0.refl _|apply Drawn0.step)⟩
  case round=>
   clear H'
   try clear c1
   try clear p2
   try clear c3
   try clear c3b0
   try clear c3b1
   try clear c3b2
   obtain ⟨x5_1,rfl,HA,HK1,⟨m1,rfl⟩⟩:=hrel
   cases gk with
   |zero=>exact absurd HA.out (by simp [Aj.l0])
   | succ k1 =>
    have H:=HA.out
    clear HA
    simp only [Aj.l0] at H
    by_cases c4:x5_1<(l0.length:Int)
    ·rw [if_pos c4] at H
     have c4b0:decide (x5_1<(l0.length:Int))=true:=decide_eq_true c4
     clear c4
     by_cases c5:0≤x5_1
     ·rw [if_pos c5] at H
      have c5b0:decide (0≤x5_1)=true:=decide_eq_true c5
      clear c5
      by_cases c6:x5_1<(l1.length:Int)
      ·rw [if_pos c6] at H
       have c6b0:decide (x5_1<(l1.length:Int))=true:=decide_eq_true c6
       clear c6
       by_cases c7:(rdOf ByteArray.empty l0 x5_1).toList=(rdOf ByteArray.empty l1 x5_1).toList
       ·rw [if_pos c7] at H
        have c7b0:((rdOf ByteArray.empty l0 x5_1).toList==(rdOf ByteArray.empty l1 x5_1).toList)=true:=beq_iff_eq.mpr c7
        have c7b1:((rdOf ByteArray.empty l0 x5_1).toList !=(rdOf ByteArray.empty l1 x5_1).toList)=false:=bne_eq_false_iff_eq.mpr c7
        clear c7
        have H':=Aside0.mk H
        clear H
        have p235:0≤(x5_1:Int):=of_decide_eq_true (by first|(with_reducible assumption)|assumption)
        have q235:x5_1<(l0.length:Int):=of_decide_eq_true (by first|(with_reducible assumption)|assumption)
        obtain ⟨ad235,e235,hx235_0⟩:=Kd.at_string HR0.out x5_1 p235 q235
        cases e235
        replace p235:=eq_true p235
        replace q235:=eq_true q235
        have p236:0≤(x5_1:Int):=of_decide_eq_true (by first|(with_reducible assumption)|assumption)
        have q236:x5_1<(l1.length:Int):=of_decide_eq_true (by first|(with_reducible assumption)|assumption)
        obtain ⟨ad236,e236,hx236_0⟩:=Kd.at_string HR1.out x5_1 p236 q236
        cases e236
        replace p236:=eq_true p236
        replace q236:=eq_true q236
        go_wp2
        repeat (go_quiet (fail); try go_wp2)
        go_roundg k1
        case measure=>have:=HK1.out; omega
        case rel=>exact ⟨(wrap64 (x5_1+1)),(by first|rfl|(simp; done)|(simp [*]; done)),H',⟨by have:=HK1.out; omega⟩,by repeat (first|exact Drawn0.refl _|apply Drawn0.step)⟩
       ·rw [if_neg c7] at H
        have c7b0:((rdOf ByteArray.empty l0 x5_1).toList==(rdOf ByteArray.empty l1 x5_1).toList)=false:=beq_eq_false_iff_ne.mpr c7
        have c7b1:((rdOf ByteArray.empty l0 x5_1).toList !=(rdOf ByteArray.empty l1 x5_1).toList)=true:=bne_iff_ne.mpr c7
        obtain rfl:=Option.some.inj H
        have p235:0≤(x5_1:Int):=of_decide_eq_true (by first|(with_reducible assumption)|assumption)
        have q235:x5_1<(l0.length:Int):=of_decide_eq_true (by first|(with_reducible assumption)|assumption)
        obtain ⟨ad235,e235,hx235_0⟩:=Kd.at_string HR0.out x5_1 p235 q235
        cases e235
        replace p235:=eq_true p235
        replace q235:=eq_true q235
        have p236:0≤(x5_1:Int):=of_decide_eq_true (by first|(with_reducible assumption)|assumption)
        have q236:x5_1<(l1.length:Int):=of_decide_eq_true (by first|(with_reducible assumption)|assumption)
        obtain ⟨ad236,e236,hx236_0⟩:=Kd.at_string HR1.out x5_1 p236 q236
        cases e236
        replace p236:=eq_true p236
        replace q236:=eq_true q236
        go_wp2
        repeat (go_quiet (fail); try go_wp2)
        go_ret
        exact ⟨by first|rfl|(simp; done)|(simp [*]; done),by repeat (first|exact Drawn0.refl _|apply Drawn0.step)⟩
      ·rw [if_neg c6] at H
       exact absurd H (by simp)
     ·rw [if_neg c5] at H
      exact absurd H (by simp)
    ·rw [if_neg c4] at H
     have c4b0:decide (x5_1<(l0.length:Int))=false:=decide_eq_false c4
     clear c4
     obtain rfl:=Option.some.inj H
     go_wp2
     repeat (go_quiet (fail); try go_wp2)
     go_ret
     exact ⟨by first|rfl|(simp; done)|(simp [*]; done),by repeat (first|exact Drawn0.refl _|apply Drawn0.step)⟩
 ·rw [if_neg c3] at H
  have c3b0:((l0.length:Int)==(l1.length:Int))=false:=beq_eq_false_iff_ne.mpr c3
  have c3b1:((l0.length:Int) !=(l1.length:Int))=true:=bne_iff_ne.mpr c3
  have c3b2:(l0.length==l1.length)=false:=by first|simpa using c3|(simp at c3 ⊢; omega)
  obtain rfl:=Option.some.inj H
  go_enter Tryd.func31,Tryd.ntmps31
  go_wp2
  repeat (go_quiet (fail); try go_wp2)
  go_ret
  exact ⟨by first|rfl|(simp; done)|(simp [*]; done),by repeat (first|exact Drawn0.refl _|apply Drawn0.step)⟩
mutual
def culetlaw48_SettingsSheet.j0:Nat→List (S33)→Int→Bool→Option (Bool)
 |0,_,_,_=>none
 |k+1,x0,x1,x20=>if x20=true then ((Ax.f k).bind fun t238=>(some t238)) else ((Ap.f k x0 x1).bind fun bt239=>((AX.f k x0 x1).bind fun bt243=>((Aj.f k bt239.1 bt243.1).bind fun t247=>(if t247=true then (if bt239.2=bt243.2 then (if bt239.2=0 then (culetlaw48_SettingsSheet.j1 k x0 x1 ((bt239.1.length:Int) !=(x0.length:Int))) else (culetlaw48_SettingsSheet.j1 k x0 x1 false)) else (culetlaw48_SettingsSheet.j1 k x0 x1 true)) else (culetlaw48_SettingsSheet.j1 k x0 x1 true)))))
def culetlaw48_SettingsSheet.j1:Nat→List (S33)→Int→Bool→Option (Bool)
 |0,_,_,_=>none
 |k+1,x0,x1,x53=>if x53=true then (some false) else (culetlaw48_SettingsSheet.l0 k x0 x1 0)
def culetlaw48_SettingsSheet.l0:Nat→List (S33)→Int→Int→Option (Bool)
 |0,_,_,_=>none
 |k+1,x0,x1,x9=>if x9<(x0.length:Int) then (culetlaw48_SettingsSheet.j3 k x0 x1 x9 (decide (x9<10))) else (culetlaw48_SettingsSheet.j3 k x0 x1 x9 false)
def culetlaw48_SettingsSheet.j3:Nat→List (S33)→Int→Int→Bool→Option (Bool)
 |0,_,_,_,_=>none
 |k+1,x0,x1,x9,x61=>if x61=true then (if 0≤x9 then (if x9<(x0.length:Int) then ((Aa.f k ((AW x0 x9).f0) ((AW x0 x9).f1) ((AW x0 x9).f2) x1).bind fun bt249=>((Ah.f k ((AW x0 x9).f0) ((AW x0 x9).f1) ((AW x0 x9).f2) x1).bind fun bt252=>(if bt249.1.toList=bt252.1.toList then (if bt249.2=bt252.2 then (culetlaw48_SettingsSheet.l0 k x0 x1 (wrap64 (x9+1))) else (some false)) else (some false)))) else (none)) else (none)) else (some true)
end
def culetlaw48_SettingsSheet.f (k:Nat) (l0:List (S33)) (a1:Int):Option (Bool):=(Ax.f k).bind fun t237=>(if t237=true then (culetlaw48_SettingsSheet.j0 k l0 a1 (decide ((l0.length:Int)>102))) else (culetlaw48_SettingsSheet.j0 k l0 a1 true))
set_option maxHeartbeats 8000000 in
theorem culetlaw48_SettingsSheet.calls (k:Nat) (A0:Option Addr) (c0:Nat) (l0:List (S33)) (a1:Int) (r:Bool) (w:World) (hr0:Kd.C k33 w A0 l0.length l0) (hc0:l0.length≤c0) (h:culetlaw48_SettingsSheet.f k l0 a1=some r) (ht:Tab w):
  Calls Tryd.prog 9 #[.slice A0 l0.length c0,.int .i64 a1] w fun e w'=>e= .returned (.bool r)∧Below w.heap.size w w':=by
 have HTB:=Aside0.mk ht
 clear ht
 have hu33:=Tryd.underlying33
 have HR0:=Aside0.mk hr0
 have HC0:=Aside0.mk hc0
 clear hr0 hc0
 have HB:=Aside0.mk (Below.refl w.heap.size w)
 have H:((Ax.f k).bind fun t237=>(if t237=true then (culetlaw48_SettingsSheet.j0 k l0 a1 (decide ((l0.length:Int)>102))) else (culetlaw48_SettingsSheet.j0 k l0 a1 true)))=some r:=h
 clear h
 have HC3:=Aside0.mk H
 clear H
 go_enter Tryd.func9,Tryd.ntmps9
 go_upto_region 1 with (fail)
 go_cut [20] (fun v20 wc=>∃(kq:Nat) (x20_2:Bool),v20= .bool x20_2∧Aside0 (culetlaw48_SettingsSheet.j0 kq l0 a1 x20_2=some r)∧Aside0 (kq≤k)∧Aside0 (Below w.heap.size w wc))
 case first=>
  have H:=HC3.out
  clear HC3
  replace H:=Option.bind_eq_some_iff.mp H
  obtain ⟨t237,A40,H⟩:=H
  replace H:(if t237=true then (culetlaw48_SettingsSheet.j0 k l0 a1 (decide ((l0.length:Int)>102))) else (culetlaw48_SettingsSheet.j0 k l0 a1 true))=some r:=H
  have A4:=Aside0.mk A40
  clear A40
  by_cases c5:t237=true
  ·subst c5
   have H1:(culetlaw48_SettingsSheet.j0 k l0 a1 (decide ((l0.length:Int)>102)))=some r:=by rw [if_pos rfl] at H; exact H
   clear H
   have H:=H1
   clear H1
   have H':=Aside0.mk H
   clear H
   go_wp2_with (first|((with_reducible refine AQ (f:=10) rfl ?_); refine Ag (some 14) rfl rfl Tryd.func10 (by kernel_rfl) rfl #[] rfl (by (try simp only [List.map_toArray,List.map_cons,List.map_nil]); first|done|rfl|(simp only [List.length_drop,List.length_take]; rfl)) ?_; (with_reducible refine (Ax.calls k true _ A4.out (Tab.below HTB.out (by repeat (first|(with_reducible first|exact HB.out|apply AI|apply AG|apply AH)|exact HB.out)))).mono ?_); rintro e w6 ⟨rfl,hb⟩; refine ⟨_,rfl,?_⟩; have n0_:=Aside0.mk (AP (by repeat (first|(with_reducible first|exact HB.out|apply AI|apply AG|apply AH)|exact HB.out)) hb); clear HB; have HB:=n0_; clear n0_; (try clear hb); (try clear hb2); (try clear hk); (try clear hi)))
   go_meet
   case rel=>exact ⟨_,(decide ((l0.length:Int)>102)),(by first|rfl|(simp; done)|(simp [*]; done)),H',⟨by first|omega|exact Nat.le_refl _⟩,⟨by repeat (first|(with_reducible first|exact HB.out|apply AI|apply AG|apply AH)|exact HB.out)⟩⟩
  ·replace c5:=Bool.eq_false_iff.mpr c5
   subst c5
   have H1:(culetlaw48_SettingsSheet.j0 k l0 a1 true)=some r:=by rw [if_neg (show ¬(false=true) by decide)] at H; exact H
   clear H
   have H:=H1
   clear H1
   have H':=Aside0.mk H
   clear H
   go_wp2_with (first|((with_reducible refine AQ (f:=10) rfl ?_); refine Ag (some 14) rfl rfl Tryd.func10 (by kernel_rfl) rfl #[] rfl (by (try simp only [List.map_toArray,List.map_cons,List.map_nil]); first|done|rfl|(simp only [List.length_drop,List.length_take]; rfl)) ?_; (with_reducible refine (Ax.calls k false _ A4.out (Tab.below HTB.out (by repeat (first|(with_reducible first|exact HB.out|apply AI|apply AG|apply AH)|exact HB.out)))).mono ?_); rintro e w7 ⟨rfl,hb⟩; refine ⟨_,rfl,?_⟩; have n0_:=Aside0.mk (AP (by repeat (first|(with_reducible first|exact HB.out|apply AI|apply AG|apply AH)|exact HB.out)) hb); clear HB; have HB:=n0_; clear n0_; (try clear hb); (try clear hb2); (try clear hk); (try clear hi)))
   go_meet
   case rel=>exact ⟨_,(true),(by first|rfl|(simp; done)|(simp [*]; done)),H',⟨by first|omega|exact Nat.le_refl _⟩,⟨by repeat (first|(with_reducible first|exact HB.out|apply AI|apply AG|apply AH)|exact HB.out)⟩⟩
 case rest =>
  clear HC3
  try clear c1
  try clear p2
  try clear c5
  obtain ⟨kq,x20_2,rfl,HA,HJ2,HB⟩:=hcut
  cases kq with
  |zero=>exact absurd HA.out (by simp [culetlaw48_SettingsSheet.j0])
  | succ kj2=>
   have H:=HA.out
   clear HA
   simp only [culetlaw48_SettingsSheet.j0] at H
   by_cases c8:x20_2=true
   ·subst c8
    have H1:((Ax.f kj2).bind fun t238=>(some t238))=some r:=by rw [if_pos rfl] at H; exact H
    clear H
    have H:=H1
    clear H1
    replace H:=Option.bind_eq_some_iff.mp H
    obtain ⟨t238,A90,H⟩:=H
    replace H:(some t238)=some r:=H
    have A9:=Aside0.mk A90
    clear A90
    obtain rfl:=Option.some.inj H
    go_wp2_with (first|((with_reducible refine AQ (f:=10) rfl ?_); refine Ag (some 21) rfl rfl Tryd.func10 (by kernel_rfl) rfl #[] rfl (by (try simp only [List.map_toArray,List.map_cons,List.map_nil]); first|done|rfl|(simp only [List.length_drop,List.length_take]; rfl)) ?_; (with_reducible refine (Ax.calls kj2 t238 _ A9.out (Tab.below HTB.out (by repeat (first|(with_reducible first|exact HB.out|apply AI|apply AG|apply AH)|exact HB.out)))).mono ?_); rintro e w10 ⟨rfl,hb⟩; refine ⟨_,rfl,?_⟩; have n0_:=Aside0.mk (AP (by repeat (first|(with_reducible first|exact HB.out|apply AI|apply AG|apply AH)|exact HB.out)) hb); clear HB; have HB:=n0_; clear n0_; (try clear hb); (try clear hb2); (try clear hk); (try clear hi)))
    go_ret
    exact ⟨by first|rfl|(simp [AS,AR]<;>rfl)|(simp [*,AS,AR]<;>rfl),by repeat (first|(with_reducible first|exact HB.out|apply AI|apply AG|apply AH)|exact HB.out)⟩
   ·replace c8 := Bool.eq_false_iff.mpr c8
    subst c8
    have H1:((Ap.f kj2 l0 a1).bind fun bt239=>((AX.f kj2 l0 a1).bind fun bt243=>((Aj.f kj2 bt239.1 bt243.1).bind fun t247=>(if t247=true then (if bt239.2=bt243.2 then (if bt239.2=0 then (culetlaw48_SettingsSheet.j1 kj2 l0 a1 ((bt239.1.length:Int) !=(l0.length:Int))) else (culetlaw48_SettingsSheet.j1 kj2 l0 a1 false)) else (culetlaw48_SettingsSheet.j1 kj2 l0 a1 true)) else (culetlaw48_SettingsSheet.j1 kj2 l0 a1 true)))))=some r:=by rw [if_neg (show ¬(false=true) by decide)] at H; exact H
    clear H
    have H:=H1
    clear H1
    replace H:=Option.bind_eq_some_iff.mp H
    obtain ⟨⟨t239,t240⟩,A110,H⟩:=H
    replace H:((AX.f kj2 l0 a1).bind fun bt243=>((Aj.f kj2 t239 bt243.1).bind fun t247=>(if t247=true then (if t240=bt243.2 then (if t240=0 then (culetlaw48_SettingsSheet.j1 kj2 l0 a1 ((t239.length:Int) !=(l0.length:Int))) else (culetlaw48_SettingsSheet.j1 kj2 l0 a1 false)) else (culetlaw48_SettingsSheet.j1 kj2 l0 a1 true)) else (culetlaw48_SettingsSheet.j1 kj2 l0 a1 true))))=some r:=H
    have A11:=Aside0.mk A110
    clear A110
    replace H:=Option.bind_eq_some_iff.mp H
    obtain ⟨⟨t243,t244⟩,A120,H⟩:=H
    replace H:((Aj.f kj2 t239 t243).bind fun t247=>(if t247=true then (if t240=t244 then (if t240=0 then (culetlaw48_SettingsSheet.j1 kj2 l0 a1 ((t239.length:Int) !=(l0.length:Int))) else (culetlaw48_SettingsSheet.j1 kj2 l0 a1 false)) else (culetlaw48_SettingsSheet.j1 kj2 l0 a1 true)) else (culetlaw48_SettingsSheet.j1 kj2 l0 a1 true)))=some r:=H
    have A12:=Aside0.mk A120
    clear A120
    have HC13:=Aside0.mk H
    clear H
    go_upto_region 5 with (first|((with_reducible refine AQ (f:=29) rfl ?_); refine Ag (some 25) rfl rfl Tryd.func29 (by kernel_rfl) rfl #[.slice A0 l0.length c0,.int .i64 a1] rfl (by (try simp only [List.map_toArray,List.map_cons,List.map_nil]); first|done|rfl|(simp only [List.length_drop,List.length_take]; rfl)) ?_; (with_reducible refine (Ap.calls kj2 _ _ l0 a1 t239 t240 _ ?side1 ?side2 A11.out (Tab.below HTB.out (by repeat (first|(with_reducible first|exact HB.out|apply AI|apply AG|apply AH)|exact HB.out)))).mono ?_); (case side1=>repeat (first|exact (Kd.C_below HR0.out HB.out)|(with_reducible refine Kd.C_alloc ?_ _)|(with_reducible refine Kd.C_drewN ?_ _)|(with_reducible refine Kd.C_drew ?_))); (case side2=>exact HC0.out); rintro e w14 ⟨v241,rfl,ho0,hb⟩; refine ⟨_,rfl,?_⟩; have n0_:=Aside0.mk (Kd.R_lower ho0 (AT (by repeat (first|(with_reducible first|exact HB.out|apply AI|apply AG|apply AH)|exact HB.out)))); have n1_:=Aside0.mk (AP (by repeat (first|(with_reducible first|exact HB.out|apply AI|apply AG|apply AH)|exact HB.out)) hb); clear HB; have HO242:=n0_; have HB:=n1_; clear n0_ n1_; (try clear hb); (try clear hb2); (try clear hk); (try clear hi); (try clear ho0))|((with_reducible refine AQ (f:=30) rfl ?_); refine Ag (some 31) rfl rfl Tryd.func30 (by kernel_rfl) rfl #[.slice A0 l0.length c0,.int .i64 a1] rfl (by (try simp only [List.map_toArray,List.map_cons,List.map_nil]); first|done|rfl|(simp only [List.length_drop,List.length_take]; rfl)) ?_; (with_reducible refine (AX.calls kj2 _ _ l0 a1 t243 t244 _ ?side1 ?side2 A12.out).mono ?_); (case side1=>repeat (first|exact (Kd.C_below HR0.out HB.out)|(with_reducible refine Kd.C_alloc ?_ _)|(with_reducible refine Kd.C_drewN ?_ _)|(with_reducible refine Kd.C_drew ?_))); (case side2=>exact HC0.out); rintro e w15 ⟨v245,rfl,ho0,hb⟩; refine ⟨_,rfl,?_⟩; have n0_:=Aside0.mk (Kd.R_elder' (by (with_reducible repeat (first|apply Kd.R_alloc|apply Kd.R_drewN|apply Kd.R_drew)); exact HO242.out) (Kd.R_base ho0) hb); have n1_:=Aside0.mk (Kd.R_lower (Kd.R_new' ho0 (Kd.R_lt (by (with_reducible repeat (first|apply Kd.R_alloc|apply Kd.R_drewN|apply Kd.R_drew)); exact HO242.out))) (AT (by repeat (first|(with_reducible first|exact HB.out|apply AI|apply AG|apply AH)|exact HB.out)))); have n2_:=Aside0.mk (AP (by repeat (first|(with_reducible first|exact HB.out|apply AI|apply AG|apply AH)|exact HB.out)) hb); clear HO242; clear HB; have HO242:=n0_; have HO246:=n1_; have HB:=n2_; clear n0_ n1_ n2_; (try clear hb); (try clear hb2); (try clear hk); (try clear hi); (try clear ho0)))
    (try simp only [Act.put,List.setIfInBounds_toArray,List.set_cons_zero,List.set_cons_succ])
    go_cut [53] (fun v53 wc=>∃(kq:Nat) (x53_12:Bool),v53= .bool x53_12∧Aside0 (culetlaw48_SettingsSheet.j1 kq l0 a1 x53_12=some r)∧Aside0 (kq≤kj2)∧Aside0 (Below w.heap.size w wc))
    case first=>
     have H:=HC13.out
     clear HC13
     replace H:=Option.bind_eq_some_iff.mp H
     obtain ⟨t247,A160,H⟩:=H
     replace H:(if t247=true then (if t240=t244 then (if t240=0 then (culetlaw48_SettingsSheet.j1 kj2 l0 a1 ((t239.length:Int) !=(l0.length:Int))) else (culetlaw48_SettingsSheet.j1 kj2 l0 a1 false)) else (culetlaw48_SettingsSheet.j1 kj2 l0 a1 true)) else (culetlaw48_SettingsSheet.j1 kj2 l0 a1 true))=some r:=H
     have A16:=Aside0.mk A160
     clear A160
     by_cases c17:t247=true
     ·subst c17
      have H1:(if t240=t244 then (if t240=0 then (culetlaw48_SettingsSheet.j1 kj2 l0 a1 ((t239.length:Int) !=(l0.length:Int))) else (culetlaw48_SettingsSheet.j1 kj2 l0 a1 false)) else (culetlaw48_SettingsSheet.j1 kj2 l0 a1 true))=some r:=by rw [if_pos rfl] at H; exact H
      clear H
      have H:=H1
      clear H1
      by_cases c18:t240=t244
      ·rw [if_pos c18] at H
       have c18b0:(t240==t244)=true:=beq_iff_eq.mpr c18
       have c18b1:(t240 !=t244)=false:=bne_eq_false_iff_eq.mpr c18
       clear c18
       (first|rw [c18b0]|(simp only [AL,AM]; rw [c18b0])|skip)
       by_cases c19:t240=0
       ·rw [if_pos c19] at H
        have c19b0:(t240==0)=true:=beq_iff_eq.mpr c19
        have c19b1:(t240 !=0)=false:=bne_eq_false_iff_eq.mpr c19
        clear c19
        have H':=Aside0.mk H
        clear H
        obtain ⟨Ao20,co20,eo20⟩:=Kd.R_slice HO242.out
        subst eo20
        obtain ⟨Ao21,co21,eo21⟩:=Kd.R_slice HO246.out
        subst eo21
        go_wp2_with (first|((with_reducible refine AQ (f:=31) rfl ?_); refine Ag (some 36) rfl rfl Tryd.func31 (by kernel_rfl) rfl #[.slice Ao20 t239.length co20,.slice Ao21 t243.length co21] rfl (by (try simp only [List.map_toArray,List.map_cons,List.map_nil]); first|done|rfl|(simp only [List.length_drop,List.length_take]; rfl)) ?_; (with_reducible refine (Aj.calls kj2 _ _ t239 _ _ t243 true _ ?side1 ?side2 ?side3 ?side4 A16.out).mono ?_); (case side1=>repeat (first|exact (Kd.R_reads' HO242.out).2.2|(with_reducible refine Kd.C_alloc ?_ _)|(with_reducible refine Kd.C_drewN ?_ _)|(with_reducible refine Kd.C_drew ?_))); (case side2=>exact (Kd.R_reads' HO242.out).2.1); (case side3=>repeat (first|exact (Kd.R_reads' HO246.out).2.2|(with_reducible refine Kd.C_alloc ?_ _)|(with_reducible refine Kd.C_drewN ?_ _)|(with_reducible refine Kd.C_drew ?_))); (case side4=>exact (Kd.R_reads' HO246.out).2.1); rintro e w' ⟨rfl,⟨nd,rfl⟩⟩; refine ⟨_,rfl,?_⟩))
        go_meet
        case rel=>exact ⟨_,(((t239.length:Int) !=(l0.length:Int))),(by first|rfl|(simp; done)|(simp [*]; done)),H',⟨by have:=HJ2.out; first|omega|exact Nat.le_refl _⟩,⟨by repeat (first|(with_reducible first|exact HB.out|apply AI|apply AG|apply AH)|exact HB.out)⟩⟩
       ·rw [if_neg c19] at H
        have c19b0:(t240==0)=false:=beq_eq_false_iff_ne.mpr c19
        have c19b1:(t240 !=0)=true:=bne_iff_ne.mpr c19
        have H':=Aside0.mk H
        clear H
        obtain ⟨Ao22,co22,eo22⟩:=Kd.R_slice HO242.out
        subst eo22
        obtain ⟨Ao23,co23,eo23⟩:=Kd.R_slice HO246.out
        subst eo23
        go_wp2_with (first|((with_reducible refine AQ (f:=31) rfl ?_); refine Ag (some 36) rfl rfl Tryd.func31 (by kernel_rfl) rfl #[.slice Ao22 t239.length co22,.slice Ao23 t243.length co23] rfl (by (try simp only [List.map_toArray,List.map_cons,List.map_nil]); first|done|rfl|(simp only [List.length_drop,List.length_take]; rfl)) ?_; (with_reducible refine (Aj.calls kj2 _ _ t239 _ _ t243 true _ ?side1 ?side2 ?side3 ?side4 A16.out).mono ?_); (case side1=>repeat (first|exact (Kd.R_reads' HO242.out).2.2|(with_reducible refine Kd.C_alloc ?_ _)|(with_reducible refine Kd.C_drewN ?_ _)|(with_reducible refine Kd.C_drew ?_))); (case side2=>exact (Kd.R_reads' HO242.out).2.1); (case side3=>repeat (first|exact (Kd.R_reads' HO246.out).2.2|(with_reducible refine Kd.C_alloc ?_ _)|(with_reducible refine Kd.C_drewN ?_ _)|(with_reducible refine Kd.C_drew ?_))); (case side4=>exact (Kd.R_reads' HO246.out).2.1); rintro e w' ⟨rfl,⟨nd,rfl⟩⟩; refine ⟨_,rfl,?_⟩))
        go_meet
        case rel=>exact ⟨_,(false),(by first|rfl|(simp; done)|(simp [*]; done)),H',⟨by have:=HJ2.out; first|omega|exact Nat.le_refl _⟩,⟨by repeat (first|(with_reducible first|exact HB.out|apply AI|apply AG|apply AH)|exact HB.out)⟩⟩
      ·rw [if_neg c18] at H
       have c18b0:(t240==t244)=false:=beq_eq_false_iff_ne.mpr c18
       have c18b1:(t240 !=t244)=true:=bne_iff_ne.mpr c18
       (first|rw [c18b0]|(simp only [AL,AM]; rw [c18b0])|skip)
       have H':=Aside0.mk H
       clear H
       obtain ⟨Ao24,co24,eo24⟩:=Kd.R_slice HO242.out
       subst eo24
       obtain ⟨Ao25,co25,eo25⟩:=Kd.R_slice HO246.out
       subst eo25
       go_wp2_with (first|((with_reducible refine AQ (f:=31) rfl ?_); refine Ag (some 36) rfl rfl Tryd.func31 (by kernel_rfl) rfl #[.slice Ao24 t239.length co24,.slice Ao25 t243.length co25] rfl (by (try simp only [List.map_toArray,List.map_cons,List.map_nil]); first|done|rfl|(simp only [List.length_drop,List.length_take]; rfl)) ?_; (with_reducible refine (Aj.calls kj2 _ _ t239 _ _ t243 true _ ?side1 ?side2 ?side3 ?side4 A16.out).mono ?_); (case side1=>repeat (first|exact (Kd.R_reads' HO242.out).2.2|(with_reducible refine Kd.C_alloc ?_ _)|(with_reducible refine Kd.C_drewN ?_ _)|(with_reducible refine Kd.C_drew ?_))); (case side2=>exact (Kd.R_reads' HO242.out).2.1); (case side3=>repeat (first|exact (Kd.R_reads' HO246.out).2.2|(with_reducible refine Kd.C_alloc ?_ _)|(with_reducible refine Kd.C_drewN ?_ _)|(with_reducible refine Kd.C_drew ?_))); (case side4=>exact (Kd.R_reads' HO246.out).2.1); rintro e w' ⟨rfl,⟨nd,rfl⟩⟩; refine ⟨_,rfl,?_⟩))
       go_meet
       case rel=>exact ⟨_,(true),(by first|rfl|(simp; done)|(simp [*]; done)),H',⟨by have:=HJ2.out; first|omega|exact Nat.le_refl _⟩,⟨by repeat (first|(with_reducible first|exact HB.out|apply AI|apply AG|apply AH)|exact HB.out)⟩⟩
     ·replace c17:=Bool.eq_false_iff.mpr c17
      subst c17
      have H1:(culetlaw48_SettingsSheet.j1 kj2 l0 a1 true)=some r:=by rw [if_neg (show ¬(false=true) by decide)] at H; exact H
      clear H
      have H:=H1
      clear H1
      have H':=Aside0.mk H
      clear H
      obtain ⟨Ao26,co26,eo26⟩:=Kd.R_slice HO242.out
      subst eo26
      obtain ⟨Ao27,co27,eo27⟩:=Kd.R_slice HO246.out
      subst eo27
      go_wp2_with (first|((with_reducible refine AQ (f:=31) rfl ?_); refine Ag (some 36) rfl rfl Tryd.func31 (by kernel_rfl) rfl #[.slice Ao26 t239.length co26,.slice Ao27 t243.length co27] rfl (by (try simp only [List.map_toArray,List.map_cons,List.map_nil]); first|done|rfl|(simp only [List.length_drop,List.length_take]; rfl)) ?_; (with_reducible refine (Aj.calls kj2 _ _ t239 _ _ t243 false _ ?side1 ?side2 ?side3 ?side4 A16.out).mono ?_); (case side1=>repeat (first|exact (Kd.R_reads' HO242.out).2.2|(with_reducible refine Kd.C_alloc ?_ _)|(with_reducible refine Kd.C_drewN ?_ _)|(with_reducible refine Kd.C_drew ?_))); (case side2=>exact (Kd.R_reads' HO242.out).2.1); (case side3=>repeat (first|exact (Kd.R_reads' HO246.out).2.2|(with_reducible refine Kd.C_alloc ?_ _)|(with_reducible refine Kd.C_drewN ?_ _)|(with_reducible refine Kd.C_drew ?_))); (case side4=>exact (Kd.R_reads' HO246.out).2.1); rintro e w' ⟨rfl,⟨nd,rfl⟩⟩; refine ⟨_,rfl,?_⟩))
      go_meet
      case rel=>exact ⟨_,(true),(by first|rfl|(simp; done)|(simp [*]; done)),H',⟨by have:=HJ2.out; first|omega|exact Nat.le_refl _⟩,⟨by repeat (first|(with_reducible first|exact HB.out|apply AI|apply AG|apply AH)|exact HB.out)⟩⟩
    case rest =>
     clear HC13
     try clear c1
     try clear c2
     try clear p2
     try clear c3
     try clear c5
     try clear c8
     try clear c9
     try clear c10
     try clear c17
     try clear c18
     try clear c18b0
     try clear c18b1
     try clear c19
     try clear c19b0
     try clear c19b1
     try clear p2
     obtain ⟨kq,x53_12,rfl,HA,HJ12,HB⟩:=hcut
     cases kq with
     |zero=>exact absurd HA.out (by simp [culetlaw48_SettingsSheet.j1])
     | succ kj12 =>
      have H:=HA.out
      clear HA
      simp only [culetlaw48_SettingsSheet.j1] at H
      by_cases c28:x53_12=true
      ·subst c28
       have H1:(some false)=some r:=by rw [if_pos rfl] at H; exact H
       clear H
       have H:=H1
       clear H1
       obtain rfl:=Option.some.inj H
       go_wp2
       go_ret
       exact ⟨by first|rfl|(simp [AS,AR]<;>rfl)|(simp [*,AS,AR]<;>rfl),by repeat (first|(with_reducible first|exact HB.out|apply AI|apply AG|apply AH)|exact HB.out)⟩
      ·replace c28 :=Bool.eq_false_iff.mpr c28
       subst c28
       have H1:(culetlaw48_SettingsSheet.l0 kj12 l0 a1 0)=some r:=by rw [if_neg (show ¬(false=true) by decide)] at H; exact H
       clear H
       have H:=H1
       clear H1
       have H':=Aside0.mk H
       clear H
       go_wp2
       go_loopg [9] kj12 (fun kq v9 w'=>∃(x9_3:Int),v9= .int .i64 x9_3∧Aside0 (culetlaw48_SettingsSheet.l0 kq l0 a1 x9_3=some r)∧Aside0 (kq≤kj12)∧Aside0 (Below w.heap.size w w'))
       case atStart=>exact ⟨(0),(by first|rfl|(simp; done)|(simp [*]; done)),H',⟨Nat.le_refl _⟩,⟨by repeat (first|(with_reducible first|exact HB.out|apply AI|apply AG|apply AH)|exact HB.out)⟩⟩
       case round=>
        clear H'
        try clear c1
        try clear c2
        try clear p2
        try clear c3
        try clear c5
        try clear c8
        try clear c9
        try clear c10
        try clear c17
        try clear c18
        try clear c18b0
        try clear c18b1
        try clear c19
        try clear c19b0
        try clear c19b1
        try clear c28
        try clear p2
        obtain ⟨x9_3,rfl,HA,HK3,HB⟩:=hrel
        cases gk with
        |zero=>exact absurd HA.out (by simp [culetlaw48_SettingsSheet.l0])
        | succ k3 =>
         have H:=HA.out
         clear HA
         simp only [culetlaw48_SettingsSheet.l0] at H
         have HC29:=Aside0.mk H
         clear H
         go_upto_region 8 with (fail)
         go_cut [61] (fun v61 wc=>∃(kq:Nat) (x61_28:Bool),v61= .bool x61_28∧Aside0 (culetlaw48_SettingsSheet.j3 kq l0 a1 x9_3 x61_28=some r)∧Aside0 (kq≤k3)∧Aside0 (Below w.heap.size w wc))
         case first=>
          have H:=HC29.out
          clear HC29
          by_cases c30:x9_3<(l0.length:Int)
          ·rw [if_pos c30] at H
           have c30b0:decide (x9_3<(l0.length:Int))=true:=decide_eq_true c30
           clear c30
           (first|rw [c30b0]|(simp only [AL,AM]; rw [c30b0])|skip)
           have H':=Aside0.mk H
           clear H
           go_wp2
           go_meet
           case rel=>exact ⟨_,(decide (x9_3<10)),(by first|rfl|(simp; done)|(simp [*]; done)),H',⟨by have:=HJ2.out; have:=HJ12.out; have:=HK3.out; first|omega|exact Nat.le_refl _⟩,⟨by repeat (first|(with_reducible first|exact HB.out|apply AI|apply AG|apply AH)|exact HB.out)⟩⟩
          ·rw [if_neg c30] at H
           have c30b0:decide (x9_3<(l0.length:Int))=false:=decide_eq_false c30
           clear c30
           (first|rw [c30b0]|(simp only [AL,AM]; rw [c30b0])|skip)
           have H':=Aside0.mk H
           clear H
           go_wp2
           go_meet
           case rel=>exact ⟨_,(false),(by first|rfl|(simp; done)|(simp [*]; done)),H',⟨by have:=HJ2.out; have:=HJ12.out; have:=HK3.out; first|omega|exact Nat.le_refl _⟩,⟨by repeat (first|(with_reducible first|exact HB.out|apply AI|apply AG|apply AH)|exact HB.out)⟩⟩
         case rest =>
          clear HC29
          try clear c1
          try clear c2
          try clear p2
          try clear c3
          try clear c5
          try clear c8
          try clear c9
          try clear c10
          try clear c17
          try clear c18
          try clear c18b0
          try clear c18b1
          try clear c19
          try clear c19b0
          try clear c19b1
          try clear c28
          try clear c29
          try clear c30
          try clear c30b0
          try clear p2
          obtain ⟨kq,x61_28,rfl,HA,HJ28,HB⟩:=hcut
          cases kq with
          |zero=>exact absurd HA.out (by simp [culetlaw48_SettingsSheet.j3])
          | succ kj28 =>
           have H:=HA.out
           clear HA
           simp only [culetlaw48_SettingsSheet.j3] at H
           by_cases c31:x61_28=true
           ·subst c31
            have H1:(if 0≤x9_3 then (if x9_3<(l0.length:Int) then ((Aa.f kj28 ((AW l0 x9_3).f0) ((AW l0 x9_3).f1) ((AW l0 x9_3).f2) a1).bind fun bt249=>((Ah.f kj28 ((AW l0 x9_3).f0) ((AW l0 x9_3).f1) ((AW l0 x9_3).f2) a1).bind fun bt252=>(if bt249.1.toList=bt252.1.toList then (if bt249.2=bt252.2 then (culetlaw48_SettingsSheet.l0 kj28 l0 a1 (wrap64 (x9_3+1))) else (some false)) else (some false)))) else (none)) else (none))=some r:=by rw [if_pos rfl] at H; exact H
            clear H
            have H:=H1
            clear H1
            by_cases c32:0≤x9_3
            ·rw [if_pos c32] at H
             have c32b0:decide (0≤x9_3)=true:=decide_eq_true c32
             clear c32
             by_cases c33:x9_3<(l0.length:Int)
             ·rw [if_pos c33] at H
              have c33b0:decide (x9_3<(l0.length:Int))=true:=decide_eq_true c33
              clear c33
              replace H:=Option.bind_eq_some_iff.mp H
              obtain ⟨⟨t249,t250⟩,A340,H⟩:=H
              replace H:((Ah.f kj28 ((AW l0 x9_3).f0) ((AW l0 x9_3).f1) ((AW l0 x9_3).f2) a1).bind fun bt252=>(if t249.toList=bt252.1.toList then (if t250=bt252.2 then (culetlaw48_SettingsSheet.l0 kj28 l0 a1 (wrap64 (x9_3+1))) else (some false)) else (some false)))=some r:=H
              have A34:=Aside0.mk A340
              clear A340
              replace H:=Option.bind_eq_some_iff.mp H
              obtain ⟨⟨t252,t253⟩,A350,H⟩:=H
              replace H:(if t249.toList=t252.toList then (if t250=t253 then (culetlaw48_SettingsSheet.l0 kj28 l0 a1 (wrap64 (x9_3+1))) else (some false)) else (some false))=some r:=H
              have A35:=Aside0.mk A350
              clear A350
              by_cases c36:t249.toList=t252.toList
              ·rw [if_pos c36] at H
               have c36b0:(t249.toList==t252.toList)=true:=beq_iff_eq.mpr c36
               have c36b1:(t249.toList !=t252.toList)=false:=bne_eq_false_iff_eq.mpr c36
               clear c36
               by_cases c37:t250=t253
               ·rw [if_pos c37] at H
                have c37b0:(t250==t253)=true:=beq_iff_eq.mpr c37
                have c37b1:(t250 !=t253)=false:=bne_eq_false_iff_eq.mpr c37
                clear c37
                have H':=Aside0.mk H
                clear H
                have p248:0≤(x9_3:Int):=of_decide_eq_true (by first|(with_reducible assumption)|assumption)
                have q248:x9_3<(l0.length:Int):=of_decide_eq_true (by first|(with_reducible assumption)|assumption)
                obtain ⟨ad248,e248,hx248_0,hx248_1,hx248_2⟩:=BG HR0.out x9_3 p248 q248
                cases e248
                replace hx248_0:=(HB.out.cell (World.block_lt_of_cell? w _ hx248_0)).trans hx248_0
                replace hx248_1:=(HB.out.cell (World.block_lt_of_cell? w _ hx248_1)).trans hx248_1
                replace hx248_2:=(HB.out.cell (World.block_lt_of_cell? w _ hx248_2)).trans hx248_2
                replace p248:=eq_true p248
                replace q248:=eq_true q248
                go_wp2_with (first|((with_reducible refine AQ (f:=32) rfl ?_); refine Ag (some 70) rfl rfl Tryd.func32 (by kernel_rfl) rfl #[.agg #[.int .i64 ((AW l0 x9_3).f0),.int .i64 ((AW l0 x9_3).f1),.int .i64 ((AW l0 x9_3).f2)],.int .i64 a1] rfl (by (try simp only [List.map_toArray,List.map_cons,List.map_nil]); first|done|rfl|(simp only [List.length_drop,List.length_take]; rfl)) ?_; (with_reducible refine (Aa.calls kj28 ((AW l0 x9_3).f0) ((AW l0 x9_3).f1) ((AW l0 x9_3).f2) a1 t249 t250 _ A34.out (Tab.below HTB.out (by repeat (first|(with_reducible first|exact HB.out|apply AI|apply AG|apply AH)|exact HB.out)))).mono ?_); rintro e w38 ⟨rfl,hb⟩; refine ⟨_,rfl,?_⟩; have n0_:=Aside0.mk (AP (by repeat (first|(with_reducible first|exact HB.out|apply AI|apply AG|apply AH)|exact HB.out)) hb); clear HB; have HB:=n0_; clear n0_; (try clear hb); (try clear hb2); (try clear hk); (try clear hi); have p251:0≤(x9_3:Int):=of_decide_eq_true (by first|(with_reducible assumption)|assumption); have q251:x9_3<(l0.length:Int):=of_decide_eq_true (by first|(with_reducible assumption)|assumption); obtain ⟨ad251,e251,hx251_0,hx251_1,hx251_2⟩:=BG HR0.out x9_3 p251 q251; obtain rfl:ad248=ad251:=(by injection e251); replace hx251_0:=(HB.out.cell (World.block_lt_of_cell? w _ hx251_0)).trans hx251_0; replace hx251_1:=(HB.out.cell (World.block_lt_of_cell? w _ hx251_1)).trans hx251_1; replace hx251_2:=(HB.out.cell (World.block_lt_of_cell? w _ hx251_2)).trans hx251_2; replace p251:=eq_true p251; replace q251:=eq_true q251)|((with_reducible refine AQ (f:=33) rfl ?_); refine Ag (some 79) rfl rfl Tryd.func33 (by kernel_rfl) rfl #[.agg #[.int .i64 ((AW l0 x9_3).f0),.int .i64 ((AW l0 x9_3).f1),.int .i64 ((AW l0 x9_3).f2)],.int .i64 a1] rfl (by (try simp only [List.map_toArray,List.map_cons,List.map_nil]); first|done|rfl|(simp only [List.length_drop,List.length_take]; rfl)) ?_; (with_reducible refine (Ah.calls kj28 ((AW l0 x9_3).f0) ((AW l0 x9_3).f1) ((AW l0 x9_3).f2) a1 t252 t253 _ A35.out).mono ?_); rintro e w39 ⟨rfl,hb⟩; refine ⟨_,rfl,?_⟩; have n0_:=Aside0.mk (AP (by repeat (first|(with_reducible first|exact HB.out|apply AI|apply AG|apply AH)|exact HB.out)) hb); clear HB; have HB:=n0_; clear n0_; (try clear hb); (try clear hb2); (try clear hk); (try clear hi)))
                go_roundg kj28
                case measure=>have:=HJ2.out; have:=HJ12.out; have:=HK3.out; have:=HJ28.out; omega
                case rel=>exact ⟨(wrap64 (x9_3+1)),(by first|rfl|(simp; done)|(simp [*]; done)),H',⟨by have:=HJ2.out; have:=HJ12.out; have:=HK3.out; have:=HJ28.out; omega⟩,⟨by repeat (first|(with_reducible first|exact HB.out|apply AI|apply AG|apply AH)|exact HB.out)⟩⟩
               ·rw [if_neg c37] at H
                have c37b0:(t250==t253)=false:=beq_eq_false_iff_ne.mpr c37
                have c37b1:(t250 !=t253)=true:=bne_iff_ne.mpr c37
                obtain rfl:=Option.some.inj H
                have p248:0≤(x9_3:Int):=of_decide_eq_true (by first|(with_reducible assumption)|assumption)
                have q248:x9_3<(l0.length:Int):=of_decide_eq_true (by first|(with_reducible assumption)|assumption)
                obtain ⟨ad248,e248,hx248_0,hx248_1,hx248_2⟩:=BG HR0.out x9_3 p248 q248
                cases e248
                replace hx248_0:=(HB.out.cell (World.block_lt_of_cell? w _ hx248_0)).trans hx248_0
                replace hx248_1:=(HB.out.cell (World.block_lt_of_cell? w _ hx248_1)).trans hx248_1
                replace hx248_2:=(HB.out.cell (World.block_lt_of_cell? w _ hx248_2)).trans hx248_2
                replace p248:=eq_true p248
                replace q248:=eq_true q248
                go_wp2_with (first|((with_reducible refine AQ (f:=32) rfl ?_); refine Ag (some 70) rfl rfl Tryd.func32 (by kernel_rfl) rfl #[.agg #[.int .i64 ((AW l0 x9_3).f0),.int .i64 ((AW l0 x9_3).f1),.int .i64 ((AW l0 x9_3).f2)],.int .i64 a1] rfl (by (try simp only [List.map_toArray,List.map_cons,List.map_nil]); first|done|rfl|(simp only [List.length_drop,List.length_take]; rfl)) ?_; (with_reducible refine (Aa.calls kj28 ((AW l0 x9_3).f0) ((AW l0 x9_3).f1) ((AW l0 x9_3).f2) a1 t249 t250 _ A34.out (Tab.below HTB.out (by repeat (first|(with_reducible first|exact HB.out|apply AI|apply AG|apply AH)|exact HB.out)))).mono ?_); rintro e w40 ⟨rfl,hb⟩; refine ⟨_,rfl,?_⟩; have n0_:=Aside0.mk (AP (by repeat (first|(with_reducible first|exact HB.out|apply AI|apply AG|apply AH)|exact HB.out)) hb); clear HB; have HB:=n0_; clear n0_; (try clear hb); (try clear hb2); (try clear hk); (try clear hi); have p251:0≤(x9_3:Int):=of_decide_eq_true (by first|(with_reducible assumption)|assumption); have q251:x9_3<(l0.length:Int):=of_decide_eq_true (by first|(with_reducible assumption)|assumption); obtain ⟨ad251,e251,hx251_0,hx251_1,hx251_2⟩:=BG HR0.out x9_3 p251 q251; obtain rfl:ad248=ad251:=(by injection e251); replace hx251_0:=(HB.out.cell (World.block_lt_of_cell? w _ hx251_0)).trans hx251_0; replace hx251_1:=(HB.out.cell (World.block_lt_of_cell? w _ hx251_1)).trans hx251_1; replace hx251_2:=(HB.out.cell (World.block_lt_of_cell? w _ hx251_2)).trans hx251_2; replace p251:=eq_true p251; replace q251:=eq_true q251)|((with_reducible refine AQ (f:=33) rfl ?_); refine Ag (some 79) rfl rfl Tryd.func33 (by kernel_rfl) rfl #[.agg #[.int .i64 ((AW l0 x9_3).f0),.int .i64 ((AW l0 x9_3).f1),.int .i64 ((AW l0 x9_3).f2)],.int .i64 a1] rfl (by (try simp only [List.map_toArray,List.map_cons,List.map_nil]); first|done|rfl|(simp only [List.length_drop,List.length_take]; rfl)) ?_; (with_reducible refine (Ah.calls kj28 ((AW l0 x9_3).f0) ((AW l0 x9_3).f1) ((AW l0 x9_3).f2) a1 t252 t253 _ A35.out).mono ?_); rintro e w41 ⟨rfl,hb⟩; refine ⟨_,rfl,?_⟩; have n0_:=Aside0.mk (AP (by repeat (first|(with_reducible first|exact HB.out|apply AI|apply AG|apply AH)|exact HB.out)) hb); clear HB; have HB:=n0_; clear n0_; (try clear hb); (try clear hb2); (try clear hk); (try clear hi)))
                go_ret
                exact ⟨by first|rfl|(simp [AS,AR]<;>rfl)|(simp [*,AS,AR]<;>rfl),by repeat (first|(with_reducible first|exact HB.out|apply AI|apply AG|apply AH)|exact HB.out)⟩
              ·rw [if_neg c36] at H
               have c36b0:(t249.toList==t252.toList)=false:=beq_eq_false_iff_ne.mpr c36
               have c36b1:(t249.toList !=t252.toList)=true:=bne_iff_ne.mpr c36
               obtain rfl:=Option.some.inj H
               have p248:0≤(x9_3:Int):=of_decide_eq_true (by first|(with_reducible assumption)|assumption)
               have q248:x9_3<(l0.length:Int):=of_decide_eq_true (by first|(with_reducible assumption)|assumption)
               obtain ⟨ad248,e248,hx248_0,hx248_1,hx248_2⟩:=BG HR0.out x9_3 p248 q248
               cases e248
               replace hx248_0:=(HB.out.cell (World.block_lt_of_cell? w _ hx248_0)).trans hx248_0
               replace hx248_1:=(HB.out.cell (World.block_lt_of_cell? w _ hx248_1)).trans hx248_1
               replace hx248_2:=(HB.out.cell (World.block_lt_of_cell? w _ hx248_2)).trans hx248_2
               replace p248:=eq_true p248
               replace q248:=eq_true q248
               go_wp2_with (first|((with_reducible refine AQ (f:=32) rfl ?_); refine Ag (some 70) rfl rfl Tryd.func32 (by kernel_rfl) rfl #[.agg #[.int .i64 ((AW l0 x9_3).f0),.int .i64 ((AW l0 x9_3).f1),.int .i64 ((AW l0 x9_3).f2)],.int .i64 a1] rfl (by (try simp only [List.map_toArray,List.map_cons,List.map_nil]); first|done|rfl|(simp only [List.length_drop,List.length_take]; rfl)) ?_; (with_reducible refine (Aa.calls kj28 ((AW l0 x9_3).f0) ((AW l0 x9_3).f1) ((AW l0 x9_3).f2) a1 t249 t250 _ A34.out (Tab.below HTB.out (by repeat (first|(with_reducible first|exact HB.out|apply AI|apply AG|apply AH)|exact HB.out)))).mono ?_); rintro e w42 ⟨rfl,hb⟩; refine ⟨_,rfl,?_⟩; have n0_:=Aside0.mk (AP (by repeat (first|(with_reducible first|exact HB.out|apply AI|apply AG|apply AH)|exact HB.out)) hb); clear HB; have HB:=n0_; clear n0_; (try clear hb); (try clear hb2); (try clear hk); (try clear hi); have p251:0≤(x9_3:Int):=of_decide_eq_true (by first|(with_reducible assumption)|assumption); have q251:x9_3<(l0.length:Int):=of_decide_eq_true (by first|(with_reducible assumption)|assumption); obtain ⟨ad251,e251,hx251_0,hx251_1,hx251_2⟩:=BG HR0.out x9_3 p251 q251; obtain rfl:ad248=ad251:=(by injection e251); replace hx251_0:=(HB.out.cell (World.block_lt_of_cell? w _ hx251_0)).trans hx251_0; replace hx251_1:=(HB.out.cell (World.block_lt_of_cell? w _ hx251_1)).trans hx251_1; replace hx251_2:=(HB.out.cell (World.block_lt_of_cell? w _ hx251_2)).trans hx251_2; replace p251:=eq_true p251; replace q251:=eq_true q251)|((with_reducible refine AQ (f:=33) rfl ?_); refine Ag (some 79) rfl rfl Tryd.func33 (by kernel_rfl) rfl #[.agg #[.int .i64 ((AW l0 x9_3).f0),.int .i64 ((AW l0 x9_3).f1),.int .i64 ((AW l0 x9_3).f2)],.int .i64 a1] rfl (by (try simp only [List.map_toArray,List.map_cons,List.map_nil]); first|done|rfl|(simp only [List.length_drop,List.length_take]; rfl)) ?_; (with_reducible refine (Ah.calls kj28 ((AW l0 x9_3).f0) ((AW l0 x9_3).f1) ((AW l0 x9_3).f2) a1 t252 t253 _ A35.out).mono ?_); rintro e w43 ⟨rfl,hb⟩; refine ⟨_,rfl,?_⟩; have n0_:=Aside0.mk (AP (by repeat (first|(with_reducible first|exact HB.out|apply AI|apply AG|apply AH)|exact HB.out)) hb); clear HB; have HB:=n0_; clear n0_; (try clear hb); (try clear hb2); (try clear hk); (try clear hi)))
               go_ret
               exact ⟨by first|rfl|(simp [AS,AR]<;>rfl)|(simp [*,AS,AR]<;>rfl),by repeat (first|(with_reducible first|exact HB.out|apply AI|apply AG|apply AH)|exact HB.out)⟩
             ·rw [if_neg c33] at H
              exact absurd H (by simp)
            ·rw [if_neg c32] at H
             exact absurd H (by simp)
           ·replace c31:=Bool.eq_false_iff.mpr c31
            subst c31
            have H1:(some true)=some r:=by rw [if_neg (show ¬(false=true) by decide)] at H; exact H
            clear H
            have H:=H1
            clear H1
            obtain rfl:=Option.some.inj H
            go_wp2
            go_ret
            exact ⟨by first|rfl|(simp [AS,AR]<;>rfl)|(simp [*,AS,AR]<;>rfl),by repeat (first|(with_reducible first|exact HB.out|apply AI|apply AG|apply AH)|exact HB.out)⟩
end Go.Proofs.YtgfjidlckocflaaDoor.PAll
end
section
namespace Go.Proofs.YtgfjidlckocflaaDoor.PAll
set_option maxRecDepth 100000
open Go.RowKit Go.Proofs.YtgfjidlckocflaaDoorW.PrintWords Go.Proofs.YtgfjidlckocflaaDoorW.PrintLast Go.Proofs.YtgfjidlckocflaaDoorW.PrintMore
open Go.ChangeShapes Go.WideShapes Go.Deep
theorem DU {α:Type} {Q:Nat→α→Prop} :∀(n:Nat),(∀i,i<n→∃x,Q i x)→∃l:List α,l.length=n∧∀i p,l[i]? =some p→Q i p
 |0,_=>⟨[],rfl,fun i p h=>by simp at h⟩
 | n + 1,h=>by
  obtain ⟨l,hl,hq⟩:=DU n fun i hi=>h i (by omega)
  obtain ⟨x,hx⟩:=h n (by omega)
  refine ⟨l++[x],by simp [hl],fun i p hp=> ?_⟩
  by_cases hi:i<l.length
  ·rw [List.getElem?_append_left hi] at hp; exact hq i p hp
  ·rw [List.getElem?_append_right (by omega)] at hp
   by_cases e:i-l.length=0
   ·rw [e] at hp
    obtain rfl:=Option.some.inj hp
    rwa [show i=n by omega]
   ·rw [List.getElem?_eq_none (by simp; omega)] at hp; cases hp
section
variable {H:Type} {enc:TypeId×Value→H} {W:World} {held:Bool}
theorem CB {cs:List Value} {i:Nat} {v:Value} (h:(cs.drop i).take 1=[v]):cs[i]? =some v:=by
 have h1:((cs.drop i).take 1)[0]? =some v:=by rw [h]; rfl
 rw [List.getElem?_take_of_lt (by omega),List.getElem?_drop] at h1
 exact h1
theorem list3 {cs:List Value} {a b c:Value} (hl:cs.length=3) (h0:cs[0]? =some a) (h1:cs[1]? =some b) (h2:cs[2]? =some c):cs=[a,b,c]:=by
 match cs,hl with
 |[_,_,_],_=>simp at h0 h1 h2; rw [h0,h1,h2]
theorem Df {fuel:Nat} {cs:List Value} {x:DataW H×List MemPlace} (h:DataW.trod enc Tryd.prog W 0 (fun _=>true) held fuel 46 cs=some x):
  ∃(A:Option Addr) (c:Nat) (l:List S33),cs=[.slice A l.length c]∧l.length≤c∧Kd.C k33 W A l.length l:=by
 have C33:Tryd.prog.cellsOf 33=3:=by kernel_rfl
 rcases open_slice Tryd.underlying46 h with ⟨rfl,_⟩|⟨a,len,cap,m,n,D,Pl,rfl,_,hl,hm,hmm,_,hi⟩
 ·exact ⟨none,0,[],rfl,by simp,rfl,by simp,fun h=>by simp at h⟩
 ·have each:∀i,i<len→∃p:S33,∃c,c.length=3∧k33.K W p c∧∀j u,c[j]? =some u→W.cell? (a.add (i*3+j))=some u:=by
   intro i hi'
   obtain ⟨cs',hcs,ht⟩:=hi i (by rw [hmm]; split<;>omega)
   rw [C33] at hcs
   obtain ⟨_,hcl,hat⟩:=World.cells?_some hcs
   obtain ⟨y0,y1,y2,n',_,hlen,h0,h1,h2⟩:=trod_struct3 Tryd.underlying33 ht
   simp only at h0 h1 h2
   rw [show Tryd.prog.cellsOf 3=1 by kernel_rfl] at h0 h1 h2
   obtain ⟨m1,e1,_,_⟩:=DataW.trod_int Tryd.underlying3 h0
   obtain ⟨m2,e2,_,_⟩:=DataW.trod_int Tryd.underlying3 h1
   obtain ⟨m3,e3,_,_⟩:=DataW.trod_int Tryd.underlying3 h2
   have ecs:=list3 (by rw [hlen,C33]) (CB e1) (CB e2) (CB e3)
   refine ⟨⟨m1,m2,m3⟩,cs',by rw [hlen,C33],by rw [ecs]; exact E7 W ⟨m1,m2,m3⟩,fun j u hj=> ?_⟩
   have hjl:j<3:=by
    have:=(List.getElem?_eq_some_iff.1 hj).1
    rw [hlen,C33] at this; exact this
   rw [←Go.Deep.add_add,hat j hjl,hj]
  obtain ⟨l,rfl,hq⟩:=DU len each
  refine ⟨some a,cap,l,rfl,hl,rfl,?_,fun _=>⟨a,rfl,fun j p hj=> ?_⟩⟩
  ·have:maxLen≤9223372036854775807:=by decide
   omega
  ·exact hq j p hj
theorem open_sets_arg {r:Reach} {b0:Nat} {v:Value} {d:DataW H} {p:List MemPlace} (hv:Value.okWide Tryd.prog W r b0 46 v) (h:DataW.Trod enc Tryd.prog W 0 (fun _=>true) held 46 v d p):
  ∃(A:Option Addr) (c:Nat) (l:List S33),v= .slice A l.length c∧l.length≤c∧Kd.C k33 W A l.length l:=by
 obtain ⟨a,len,cap,rfl⟩:=okWide_slice Tryd.underlying46 hv
 obtain ⟨fuel,hf⟩:=h
 obtain ⟨A,c,l,e,g,hr⟩:=Df hf
 injection e with e _
 exact ⟨A,c,l,e,g,hr⟩
end
end Go.Proofs.YtgfjidlckocflaaDoor.PAll
end
section
namespace Go.Proofs.YtgfjidlckocflaaDoor.PAll
set_option maxRecDepth 100000
open Go.RowKit Go.Proofs.YtgfjidlckocflaaDoorW.PrintWords Go.Proofs.YtgfjidlckocflaaDoorW.PrintLast Go.Proofs.YtgfjidlckocflaaDoorW.PrintMore
theorem Ev.iff_pos {α:Type} {c:Prop} [Decidable c] {g f:Nat→Option α} {r:α} (h:c) (k:Ev g r):Ev (fun n=>if c then g n else f n) r:=Ev.congr (fun n=>if_pos h) k
theorem Ev.iff_neg {α:Type} {c:Prop} [Decidable c] {g f:Nat→Option α} {r:α} (h:¬c) (k:Ev f r):Ev (fun n=>if c then g n else f n) r:=Ev.congr (fun n=>if_neg h) k
theorem Ev.bindc {α β:Type} {o:Option α} {f:Nat→α→Option β} {a:α} {r:β} (h:o=some a) (k:Ev (fun n=>f n a) r):Ev (fun n=>o.bind (f n)) r:=Ev.congr (fun n=>by rw [h]; rfl) k
theorem Ev.const {α:Type} {o:Option α} {r:α} (h:o=some r):Ev (fun _=>o) r:=⟨0,fun _ _=>h⟩
theorem w64 {x:Int} (h: -9223372036854775808≤x) (h':x≤9223372036854775807):wrap64 x=x:=by unfold wrap64; omega
theorem wsucc (n:Nat) (h:n≤1000000000000000000):wrap64 ((n:Int)+1)=((n+1:Nat):Int):=by rw [w64 (by omega) (by omega)]; omega
theorem Cv (a b:Nat):Int.tmod (a:Int) (b:Int)=((a%b:Nat):Int):=by
 rw [Int.tmod_eq_emod_of_nonneg (by omega)]; omega
theorem D5 (a b:Nat):Nat.gcd b (a%b)=Nat.gcd a b:=by
 rw [Nat.gcd_comm a b,Nat.gcd_rec b a,Nat.gcd_comm]
theorem E8:∀(b a:Nat),Ev (fun k=>Ay.l0 k (a:Int) (b:Int)) (Nat.gcd a b:Int):=by
 intro b
 induction b using Nat.strongRecOn with
 | _ b ih=>
  intro a
  by_cases h:b=0
  ·subst h
   exact Ev.step (fun k=>rfl) (Ev.iff_pos rfl (by rw [Nat.gcd_zero_right]; exact Ev.now _))
  ·have h1:=ih (a%b) (Nat.mod_lt _ (by omega)) b
   rw [D5,←Cv] at h1
   exact Ev.step (fun k=>rfl) (Ev.iff_neg (by omega) h1)
theorem gcd_ref:∀(b a:Nat),Ev (fun k=>Av.l0 k (a:Int) (b:Int)) (Nat.gcd a b:Int):=by
 intro b
 induction b using Nat.strongRecOn with
 | _ b ih=>
  intro a
  by_cases h:b=0
  ·subst h
   exact Ev.step (fun k=>rfl) (Ev.iff_neg (by omega) (by rw [Nat.gcd_zero_right]; exact Ev.now _))
  ·have h1:=ih (a%b) (Nat.mod_lt _ (by omega)) b
   rw [D5,←Cv] at h1
   exact Ev.step (fun k=>rfl) (Ev.iff_pos (by omega) (Ev.iff_neg (by omega) h1))
def vd (h v i:Int):Bool:=decide (0≤h∧h≤1000∧ -1000≤v∧v≤1000∧Nat.gcd h.natAbs v.natAbs=1∧0≤i∧i<24∧(h=0→i=0))
theorem BZ {h v i:Int} :vd h v i=true↔0≤h∧h≤1000∧ -1000≤v∧v≤1000∧Nat.gcd h.natAbs v.natAbs=1∧0≤i∧i<24∧(h=0→i=0):=by simp only [vd,decide_eq_true_eq]
theorem Bl {h v i:Int} (n:¬(0≤h∧h≤1000∧ -1000≤v∧v≤1000∧Nat.gcd h.natAbs v.natAbs=1∧0≤i∧i<24∧(h=0→i=0))):vd h v i=false:=decide_eq_false n
theorem E3 {v:Int} (h0: -1000≤v) (h1:v≤1000):mx v (wrap64 (-v))=(v.natAbs:Int):=by
 rw [w64 (by omega) (by omega)]; unfold mx; split<;>omega
theorem Do {h v i:Int} (c:0≤h∧h≤1000∧ -1000≤v∧v≤1000) {t:Int} (ht:t=(Nat.gcd h.natAbs v.natAbs:Int)):
  (if t=1 then (if i≥0 then (if i<24 then (if h=0 then (some (i==0)) else (some true)) else (some false)) else (some false)) else (some false))=some (vd h v i):=by
 subst ht
 by_cases c1:((Nat.gcd h.natAbs v.natAbs:Nat):Int)=1
 ·rw [if_pos c1]
  by_cases c2:i≥0
  ·rw [if_pos c2]
   by_cases c3:i<24
   ·rw [if_pos c3]
    by_cases c4:h=0
    ·rw [if_pos c4]
     by_cases c5:i=0
     ·rw [BZ.mpr (by omega)]; simp [c5]
     ·rw [Bl (by omega)]; simp [c5]
    ·rw [if_neg c4,BZ.mpr (by omega)]
   ·rw [if_neg c3,Bl (by omega)]
  ·rw [if_neg c2,Bl (by omega)]
 ·rw [if_neg c1,Bl (by omega)]
theorem Bx (h v i:Int):Ev (fun k=>Al.f k h v i) (vd h v i):=by
 unfold Al.f B5.f
 refine Ev.bind ?_ (Ev.now _)
 by_cases c1:h<0
 ·exact Ev.iff_pos c1 (Ev.const (by rw [Bl (by omega)]))
 ·refine Ev.iff_neg c1 ?_
  by_cases c2:h>1000
  ·exact Ev.iff_pos c2 (Ev.const (by rw [Bl (by omega)]))
  ·refine Ev.iff_neg c2 ?_
   by_cases c3:v< -1000
   ·exact Ev.iff_pos c3 (Ev.const (by rw [Bl (by omega)]))
   ·refine Ev.iff_neg c3 ?_
    by_cases c4:v>1000
    ·exact Ev.iff_pos c4 (Ev.const (by rw [Bl (by omega)]))
    ·refine Ev.iff_neg c4 ?_
     have hg:=E8 v.natAbs h.natAbs
     rw [show ((h.natAbs:Nat):Int)=h by omega,←E3 (by omega) (by omega)] at hg
     exact Ev.bind hg (Ev.const (Do (by omega) rfl))
theorem CJ {v:Int} (h0: -1000≤v) (h1:v≤1000):Af.f v=some (v.natAbs:Int):=by
 unfold Af.f
 by_cases h:v<0
 ·rw [if_pos h,w64 (by omega) (by omega)]; congr 1; omega
 ·rw [if_neg h]; congr 1; omega
theorem Bp (h v i:Int):Ev (fun k=>AY.f k h v i) (vd h v i):=by
 unfold AY.f
 by_cases c1:h≥0
 ·refine Ev.iff_pos c1 ?_
  by_cases c2:h≤1000
  ·refine Ev.iff_pos c2 ?_
   by_cases c3:v≥ -1000
   ·refine Ev.iff_pos c3 ?_
    by_cases c4:v≤1000
    ·refine Ev.iff_pos c4 (Ev.bindc (CJ (by omega) (by omega)) ?_)
     have hg:=gcd_ref v.natAbs h.natAbs
     rw [show ((h.natAbs:Nat):Int)=h by omega] at hg
     exact Ev.bind hg (Ev.const (Do (by omega) rfl))
    ·exact Ev.iff_neg c4 (Ev.const (by rw [Bl (by omega)]))
   ·exact Ev.iff_neg c3 (Ev.const (by rw [Bl (by omega)]))
  ·exact Ev.iff_neg c2 (Ev.const (by rw [Bl (by omega)]))
 ·exact Ev.iff_neg c1 (Ev.const (by rw [Bl (by omega)]))
def tooth (i t:Int):Int:=if i*t/24=0 then t else i*t/24
theorem DM {i t:Int} (i0:0≤i) (i1:i<24) (t0:1≤t) (t1:t≤200):0≤i*t∧i*t≤4600:=by
 have h:=Int.mul_le_mul (show i≤23 by omega) t1 (by omega) (by omega)
 exact ⟨Int.mul_nonneg i0 (by omega),by omega⟩
theorem Cu {i t:Int} (i0:0≤i) (i1:i<24) (t0:1≤t) (t1:t≤200):0≤tooth i t∧tooth i t≤1000000∧0≤i*t%24∧i*t%24≤1000000:=by
 have:=DM i0 i1 t0 t1
 unfold tooth
 refine ⟨?_,?_,?_,?_⟩
 ·split<;>omega
 ·split<;>omega
 ·omega
 ·omega
theorem DA {i t:Int} (i0:0≤i) (i1:i<24):Ad.f i t=some (if 1≤t∧t≤200 then (tooth i t,i*t%24,0) else (0,0,2)):=by
  have e1:BH.f i=some i:=by
    unfold BH.f
    have e:Int.tmod i 24=i:=by rw [Int.tmod_eq_emod_of_nonneg i0]; omega
    rw [e,if_neg (by omega)]
  unfold Ad.f Aq.f
  by_cases c1:t≥1
  · by_cases c2:t≤200
    · have hb:=DM i0 i1 c1 c2
      rw [if_pos c1,if_pos ⟨c1,c2⟩,decide_eq_true c2]
      simp only [Option.bind_some,if_true,e1]
      rw [w64 (x:=i*t) (by omega) (by omega),Int.tdiv_eq_ediv_of_nonneg hb.1,Int.tmod_eq_emod_of_nonneg hb.1,w64 (x:=i*t/24) (by omega) (by omega)]
      unfold tooth
      by_cases c3:i*t/24=0
      · rw [if_pos c3,if_pos c3]
      · rw [if_neg c3,if_neg c3]
    · rw [if_pos c1,if_neg (by omega),decide_eq_false c2]; rfl
  · rw [if_neg c1,if_neg (by omega)]; rfl
theorem Dc {i t:Int} (i0:0≤i) (i1:i<24):Ev (fun k=>At.f k i t) (if 1≤t∧t≤200 then (tooth i t,i*t%24,0) else (0,0,2)):=by
 have e1:B3.f i=some i:=by
  unfold B3.f
  have e:Int.tmod i 24=i:=by rw [Int.tmod_eq_emod_of_nonneg i0]; omega
  rw [e,w64 (by omega) (by omega),Int.tmod_eq_emod_of_nonneg (by omega)]
  congr 1; omega
 unfold At.f
 by_cases c1:t<1
 ·refine Ev.iff_pos c1 (Ev.step (f:=fun _=>some (0,0,2)) (fun k=>rfl) (Ev.const ?_))
  rw [if_neg (by omega)]
 ·refine Ev.iff_neg c1 ?_
  by_cases c2:t>200
  ·rw [decide_eq_true c2,if_neg (by omega)]
   exact Ev.step (f:=fun _=>some (0,0,2)) (fun k=>rfl) (Ev.now _)
  ·have hb:=DM i0 i1 (show 1≤t by omega) (show t≤200 by omega)
   rw [decide_eq_false c2,if_pos (by omega)]
   refine Ev.step (f:=fun _=>(B3.f i).bind fun z=>if wrap64 (Int.tdiv (wrap64 (z*t)) 24)=0 then some (t,Int.tmod (wrap64 (z*t)) 24,0) else some (wrap64 (Int.tdiv (wrap64 (z*t)) 24),Int.tmod (wrap64 (z*t)) 24,0)) (fun k=>rfl) (Ev.bindc e1 (Ev.const ?_))
   rw [w64 (x:=i*t) (by omega) (by omega),Int.tdiv_eq_ediv_of_nonneg hb.1,Int.tmod_eq_emod_of_nonneg hb.1,w64 (x:=i*t/24) (by omega) (by omega)]
   unfold tooth
   by_cases c3:i*t/24=0
   ·rw [if_pos c3,if_pos c3]
   ·rw [if_neg c3,if_neg c3]
def slide (h v:Int):Int:=1000*h/(v.natAbs:Int)
theorem C5 {h v:Int} (h0:0≤h) (h1:h≤1000) (hv:v≠0):0≤slide h v∧slide h v≤1000000:=by
 have a:0≤1000*h/(v.natAbs:Int):=Int.ediv_nonneg (by omega) (by omega)
 have b:1000*h/(v.natAbs:Int)≤1000*h:=Int.ediv_le_self _ (by omega)
 unfold slide
 exact ⟨a,by omega⟩
theorem DF {h v i:Int} (V:vd h v i=true):Ev (fun k=>B6.f k h v i) (if v=0 then (0,false,15) else (slide h v,(1000*h%(v.natAbs:Int))==0,0)):=by
 have hv:=BZ.mp V
 unfold B6.f
 refine Ev.bind (Bx h v i) ?_
 rw [V]
 refine Ev.iff_pos rfl ?_
 by_cases c:v=0
 ·rw [show (if v=0 then ((0,false,15):Int×Bool×Int) else (slide h v,(1000*h%(v.natAbs:Int))==0,0))=(0,false,15) from if_pos c]; exact Ev.iff_pos c (Ev.now _)
 ·rw [show (if v=0 then ((0,false,15):Int×Bool×Int) else (slide h v,(1000*h%(v.natAbs:Int))==0,0))=(slide h v,(1000*h%(v.natAbs:Int))==0,0) from if_neg c]
  have es:Az.f v=some (v.natAbs:Int):=by unfold Az.f; rw [E3 (by omega) (by omega)]
  refine Ev.iff_neg c (Ev.bindc es (Ev.iff_neg (by omega) (Ev.const ?_)))
  have hb:=C5 hv.1 hv.2.1 c
  unfold slide at hb
  rw [w64 (x:=1000*h) (by omega) (by omega),Int.tdiv_eq_ediv_of_nonneg (by omega),Int.tmod_eq_emod_of_nonneg (by omega),w64 (x:=1000*h/(v.natAbs:Int)) (by omega) (by omega)]
  rfl
theorem Dd {h v i:Int} (V:vd h v i=true):Ev (fun k=>B2.f k h v i) (if v=0 then (0,false,15) else (slide h v,(1000*h%(v.natAbs:Int))==0,0)):=by
 have hv:=BZ.mp V
 unfold B2.f
 refine Ev.bind (Bp h v i) ?_
 rw [V]
 refine Ev.iff_pos rfl ?_
 by_cases c:v=0
 ·rw [show (if v=0 then ((0,false,15):Int×Bool×Int) else (slide h v,(1000*h%(v.natAbs:Int))==0,0))=(0,false,15) from if_pos c]; exact Ev.iff_pos c (Ev.now _)
 ·rw [show (if v=0 then ((0,false,15):Int×Bool×Int) else (slide h v,(1000*h%(v.natAbs:Int))==0,0))=(slide h v,(1000*h%(v.natAbs:Int))==0,0) from if_neg c]
  have es:=CJ (v:=v) (by omega) (by omega)
  refine Ev.iff_neg c (Ev.bindc es (Ev.iff_neg (by omega) (Ev.bindc es (Ev.iff_neg (by omega) (Ev.const ?_)))))
  have hb:=C5 hv.1 hv.2.1 c
  unfold slide at hb
  rw [w64 (x:=1000*h) (by omega) (by omega),Int.tdiv_eq_ediv_of_nonneg (by omega),Int.tmod_eq_emod_of_nonneg (by omega),w64 (x:=1000*h/(v.natAbs:Int)) (by omega) (by omega)]
  rfl
theorem Cy {h v i h' v' i':Int} (V:vd h v i=true) (V':vd h' v' i'=true):Ev (fun k=>An.f k h v i h' v' i') (decide (StSort.keyI h v<StSort.keyI h' v')):=by
 have a:=BZ.mp V
 have b:=BZ.mp V'
 have kk:∀ {h v i:Int},vd h v i=true→StSort.KOk h v:=fun V=>by
  have a:=BZ.mp V
  refine ⟨a.1,a.2.1,a.2.2.1,a.2.2.2.1,fun hv=> ?_⟩
  have g:=a.2.2.2.2.1
  rw [hv,Int.natAbs_zero,Nat.gcd_zero_right] at g
  omega
 unfold An.f
 refine Ev.bind (Bp h v i) ?_
 rw [V]
 refine Ev.iff_pos rfl (Ev.bind (Bp h' v' i') ?_)
 rw [V']
 refine Ev.iff_pos rfl (Ev.bindc (CJ (by omega) (by omega)) (Ev.bindc (CJ (by omega) (by omega)) (Ev.const ?_)))
 have s1:((v.natAbs:Nat):Int)=StSort.szI v:=by unfold StSort.szI; split<;>omega
 have s2:((v'.natAbs:Nat):Int)=StSort.szI v':=by unfold StSort.szI; split<;>omega
 have m1:h*(v'.natAbs:Int)≤1000*1000:=Int.mul_le_mul a.2.1 (by omega) (by omega) (by omega)
 have m2:h'*(v.natAbs:Int)≤1000*1000:=Int.mul_le_mul b.2.1 (by omega) (by omega) (by omega)
 have m3:0≤h*(v'.natAbs:Int):=Int.mul_nonneg a.1 (by omega)
 have m4:0≤h'*(v.natAbs:Int):=Int.mul_nonneg b.1 (by omega)
 rw [w64 (by omega) (by omega),w64 (by omega) (by omega),s1,s2]
 have:=StSort.key_iff (kk V) (kk V')
 simp only [this]
end Go.Proofs.YtgfjidlckocflaaDoor.PAll
end
section
namespace Go.Proofs.YtgfjidlckocflaaDoor.PAll
set_option maxRecDepth 100000
open Go.RowKit Go.Proofs.YtgfjidlckocflaaDoorW.PrintWords Go.Proofs.YtgfjidlckocflaaDoorW.PrintLast Go.Proofs.YtgfjidlckocflaaDoorW.PrintMore
def bs (l:List UInt8):ByteArray:=⟨l.toArray⟩
theorem bs_app (a b:List UInt8):bs a++bs b=bs (a++b):=by
 apply ByteArray.ext
 rw [ByteArray.data_append]
 simp [bs]
theorem Cr (a:List UInt8):(bs a).size=a.length:=by simp [bs,ByteArray.size]
theorem dgt {n:Nat} :strOfNums ([(wrap64 (48+Int.tmod (n:Int) 10))%256]:List Int)=bs [UInt8.ofNat (48+n%10)]:=by
 have e:Int.tmod (n:Int) 10=((n%10:Nat):Int):=by
  rw [Int.tmod_eq_emod_of_nonneg (by omega)]; omega
 rw [e,w64 (by omega) (by omega)]
 have e2:((48+((n%10:Nat):Int))%256).toNat=48+n%10:=by omega
 unfold strOfNums bs
 simp only [List.map_cons,List.map_nil,e2]
theorem tdv {n:Nat} (hn:n≤1000000000):wrap64 (Int.tdiv (n:Int) 10)=((n/10:Nat):Int):=by
 rw [Int.tdiv_eq_ediv_of_nonneg (by omega),w64 (by omega) (by omega)]; omega
theorem itoa_l0:∀(n:Nat) (s:List UInt8),0<n→n+s.length≤1000000000→Ev (fun k=>Ae.l0 k (n:Int) (bs s)) (bs (Go.Lib.decDigits n++s)):=by
 intro n
 induction n using Nat.strongRecOn with
 | _ n ih=>
  intro s h0 hs
  refine Ev.step (fun k=>rfl) (Ev.iff_pos (by omega) (Ev.bindc rfl ?_))
  rw [dgt,tdv (by omega),bs_app]
  refine Ev.iff_pos (by rw [Cr,Cr]; simp only [List.length_cons,List.length_nil]; omega) ?_
  by_cases h:n<10
  ·rw [show n/10=0 by omega,Go.Lib.decDigits,dif_pos h,show n%10=n by omega]
   exact Ev.step (fun k=>rfl) (Ev.iff_neg (by omega) (Ev.now _))
  ·rw [Go.Lib.decDigits,dif_neg h,List.append_assoc]
   exact ih (n/10) (by omega) _ (by omega) (by simp only [List.length_append,List.length_cons,List.length_nil]; omega)
theorem C7 (n:Nat):B9 (n:Int)=bs (Go.Lib.decDigits n):=by
 unfold B9 bs
 rw [Go.Lib.itoa,if_neg (by omega),Int.toNat_natCast]
theorem D2 (n:Nat) (hn:n≤1000000):Ev (fun k=>Ae.f k (n:Int)) (B9 (n:Int)):=by
 rw [C7]
 refine Ev.step (g:=fun k=>Ae.f k (n:Int)) (fun k=>rfl) (Ev.iff_neg (by omega) ?_)
 rw [dgt,tdv (by omega)]
 by_cases h:n<10
 ·rw [show n/10=0 by omega,Go.Lib.decDigits,dif_pos h,show n%10=n by omega]
  exact Ev.step (fun k=>rfl) (Ev.iff_neg (by omega) (Ev.now _))
 ·rw [Go.Lib.decDigits,dif_neg h]
  exact itoa_l0 (n/10) _ (by omega) (by simp only [List.length_cons,List.length_nil]; omega)
theorem C0 {n:Int} (h0:0≤n) (hn:n≤1000000):Ev (fun k=>Ae.f k n) (B9 n):=by
 obtain ⟨u,rfl⟩:=Int.eq_ofNat_of_zero_le h0
 exact D2 u (by omega)
theorem Bm {n:Int} (h0:0≤n) (hn:n≤1000000):As.f n=some (B9 n):=by
 unfold As.f
 rw [if_pos (by omega)]
theorem Da:∀(k u:Nat),u<10^(k+1)→(Go.Lib.decDigits u).length≤k+1
 |0,u,h=>by rw [Go.Lib.decDigits,dif_pos (by omega)]; simp
 | k +1,u,h=>by
  rw [Go.Lib.decDigits]
  by_cases c:u<10
  ·rw [dif_pos c]; simp
  ·rw [dif_neg c,List.length_append]
   have:=Da k (u/10) (by rw [Nat.pow_succ] at h; omega)
   simp only [List.length_cons,List.length_nil]; omega
theorem BX {n:Int} (h0:0≤n) (hn:n≤1000000):(B9 n).size≤21:=by
 obtain ⟨u,rfl⟩:=Int.eq_ofNat_of_zero_le h0
 rw [C7,Cr]
 exact Nat.le_trans (Da 7 u (by omega)) (by omega)
def D4 (i t:Int):ByteArray:=if i*t%24=0 then B9 (tooth i t) else B9 (tooth i t)++((⟨#[43]⟩:ByteArray)++B9 (i*t%24))
def CC (h v:Int):ByteArray:=if v=0 then (⟨#[32,103,105,114,100,108,101]⟩:ByteArray) else if v>0 then (⟨#[32]⟩:ByteArray)++(B9 (slide h v)++(⟨#[32,117,112]⟩:ByteArray)) else (⟨#[32]⟩:ByteArray)++(B9 (slide h v)++(⟨#[32,100,111,119,110]⟩:ByteArray))
theorem tail0 {h v:Int} (c:v=0):CC h v=(⟨#[32,103,105,114,100,108,101]⟩:ByteArray):=if_pos c
theorem tail1 {h v:Int} (c:¬v=0) (p:v>0):CC h v=(⟨#[32]⟩:ByteArray)++(B9 (slide h v)++(⟨#[32,117,112]⟩:ByteArray)):=(if_neg c).trans (if_pos p)
theorem tail2 {h v:Int} (c:¬v=0) (p:¬v>0):CC h v=(⟨#[32]⟩:ByteArray)++(B9 (slide h v)++(⟨#[32,100,111,119,110]⟩:ByteArray)):=(if_neg c).trans (if_neg p)
theorem sl0 {h v:Int} (c:v=0):(if v=0 then ((0,false,15):Int×Bool×Int) else (slide h v,(1000*h%(v.natAbs:Int))==0,0))=(0,false,15):=if_pos c
theorem sl1 {h v:Int} (c:¬v=0):(if v=0 then ((0,false,15):Int×Bool×Int) else (slide h v,(1000*h%(v.natAbs:Int))==0,0))=(slide h v,(1000*h%(v.natAbs:Int))==0,0):=if_neg c
def BN (x:S33) (t:Int):ByteArray×Int:=if vd x.f0 x.f1 x.f2=true then (if 1≤t∧t≤200 then (D4 x.f2 t++CC x.f0 x.f1,0) else ((⟨#[]⟩:ByteArray),2)) else ((⟨#[]⟩:ByteArray),1)
theorem s1:(⟨#[32]⟩:ByteArray).size=1:=rfl
theorem s2:(⟨#[43]⟩:ByteArray).size=1:=rfl
theorem CG {h v i:Int} (V:vd h v i=true) (x:ByteArray) (hx:x.size≤43):Ev (fun k=>Aa.j0 k x h v i) (x++CC h v,0):=by
 have hv:=BZ.mp V
 refine Ev.step (fun k=>rfl) (Ev.bind (DF V) ?_)
 by_cases c:v=0
 ·rw [sl0 c,tail0 c]
  exact Ev.iff_neg (by simp) (Ev.iff_pos (by omega) (Ev.now _))
 ·rw [sl1 c]
  have b:=C5 hv.1 hv.2.1 c
  have ei:=Bm b.1 b.2
  have es:=BX b.1 b.2
  refine Ev.iff_pos rfl ?_
  by_cases p:v>0
  ·rw [tail1 c p]
   refine Ev.iff_pos p (Ev.iff_pos (by omega) (Ev.bindc ei (Ev.iff_pos (by rw [ByteArray.size_append,s1]; omega) (Ev.iff_pos (by rw [ByteArray.size_append,ByteArray.size_append,s1]; omega) (Ev.const ?_)))))
   rw [ByteArray.append_assoc,ByteArray.append_assoc]
  ·rw [tail2 c p]
   refine Ev.iff_neg p (Ev.iff_pos (by omega) (Ev.bindc ei (Ev.iff_pos (by rw [ByteArray.size_append,s1]; omega) (Ev.iff_pos (by rw [ByteArray.size_append,ByteArray.size_append,s1]; omega) (Ev.const ?_)))))
   rw [ByteArray.append_assoc,ByteArray.append_assoc]
theorem CV {h v i:Int} (V:vd h v i=true) (x:ByteArray) (hx:x.size≤43):Ev (fun k=>Ah.j0 k x h v i) (x++CC h v,0):=by
 have hv:=BZ.mp V
 refine Ev.step (fun k=>rfl) (Ev.bind (Dd V) ?_)
 by_cases c:v=0
 ·rw [sl0 c,tail0 c]
  exact Ev.iff_neg (by simp) (Ev.iff_pos (by omega) (Ev.now _))
 ·rw [sl1 c]
  have b:=C5 hv.1 hv.2.1 c
  have ei:=C0 b.1 b.2
  have es:=BX b.1 b.2
  refine Ev.iff_pos rfl (Ev.bind ei (Ev.iff_pos (by omega) (Ev.iff_pos (by rw [ByteArray.size_append,s1]; omega) ?_)))
  by_cases p:v>0
  ·rw [tail1 c p]
   refine Ev.iff_pos p (Ev.iff_pos (by rw [ByteArray.size_append,ByteArray.size_append,s1]; omega) (Ev.const ?_))
   rw [ByteArray.append_assoc,ByteArray.append_assoc]
  ·rw [tail2 c p]
   refine Ev.iff_neg p (Ev.iff_pos (by rw [ByteArray.size_append,ByteArray.size_append,s1]; omega) (Ev.const ?_))
   rw [ByteArray.append_assoc,ByteArray.append_assoc]
theorem Bv (x:S33) (t:Int):Ev (fun k=>Aa.f k x.f0 x.f1 x.f2 t) (BN x t):=by
 obtain ⟨h,v,i⟩:=x
 show Ev (fun k=>Aa.f k h v i t) (if vd h v i=true then (if 1≤t∧t≤200 then (D4 i t++CC h v,0) else ((⟨#[]⟩:ByteArray),2)) else ((⟨#[]⟩:ByteArray),1))
 unfold Aa.f
 refine Ev.bind (Bx h v i) ?_
 cases V:vd h v i with
 |false=>rw [if_neg (by simp)]; exact Ev.iff_neg (by simp) (Ev.now _)
 | true=>
  have hv:=BZ.mp V
  rw [if_pos rfl]
  refine Ev.iff_pos rfl (Ev.bindc (DA (by omega) (by omega)) ?_)
  by_cases c:1≤t∧t≤200
  ·rw [if_pos c,if_pos c]
   have b:=Cu (i:=i) (t:=t) (by omega) (by omega) c.1 c.2
   have z1:=BX b.1 b.2.1
   have z2:=BX b.2.2.1 b.2.2.2
   refine Ev.iff_pos rfl (Ev.bindc (Bm b.1 b.2.1) ?_)
   unfold D4
   by_cases d:i*t%24=0
   ·rw [if_pos d]
    exact Ev.iff_pos d (CG V (B9 (tooth i t)) (by omega))
   ·rw [if_neg d]
    exact Ev.iff_neg d (Ev.bindc (Bm b.2.2.1 b.2.2.2) (Ev.iff_pos (by show 1+(B9 (i*t%24)).size≤_; omega) (Ev.iff_pos (by show (B9 (tooth i t)).size+((⟨#[43]⟩:ByteArray)++B9 (i*t%24)).size≤_; rw [ByteArray.size_append,s2]; omega) (CG V (B9 (tooth i t)++((⟨#[43]⟩:ByteArray)++B9 (i*t%24))) (by rw [ByteArray.size_append,ByteArray.size_append,s2]; omega)))))
  ·rw [if_neg c,if_neg c]
   exact Ev.iff_neg (by simp) (Ev.now _)
theorem CU (x:S33) (t:Int):Ev (fun k=>Ah.f k x.f0 x.f1 x.f2 t) (BN x t):=by
 obtain ⟨h,v,i⟩:=x
 show Ev (fun k=>Ah.f k h v i t) (if vd h v i=true then (if 1≤t∧t≤200 then (D4 i t++CC h v,0) else ((⟨#[]⟩:ByteArray),2)) else ((⟨#[]⟩:ByteArray),1))
 unfold Ah.f
 refine Ev.bind (Bp h v i) ?_
 cases V:vd h v i with
 |false=>rw [if_neg (by simp)]; exact Ev.iff_neg (by simp) (Ev.now _)
 | true=>
  have hv:=BZ.mp V
  rw [if_pos rfl]
  refine Ev.iff_pos rfl (Ev.bind (Dc (by omega) (by omega)) ?_)
  by_cases c:1≤t∧t≤200
  ·rw [if_pos c,if_pos c]
   have b:=Cu (i:=i) (t:=t) (by omega) (by omega) c.1 c.2
   have z1:=BX b.1 b.2.1
   have z2:=BX b.2.2.1 b.2.2.2
   refine Ev.iff_pos rfl (Ev.bind (C0 b.1 b.2.1) ?_)
   unfold D4
   by_cases d:i*t%24=0
   ·rw [if_pos d]
    exact Ev.iff_neg (by show ¬i*t%24>0; omega) (CV V (B9 (tooth i t)) (by omega))
   ·rw [if_neg d]
    exact Ev.iff_pos (by show i*t%24>0; omega) (Ev.bind (C0 b.2.2.1 b.2.2.2) (Ev.iff_pos (by show 1+(B9 (i*t%24)).size≤_; omega) (Ev.iff_pos (by show (B9 (tooth i t)).size+((⟨#[43]⟩:ByteArray)++B9 (i*t%24)).size≤_; rw [ByteArray.size_append,s2]; omega) (CV V (B9 (tooth i t)++((⟨#[43]⟩:ByteArray)++B9 (i*t%24))) (by rw [ByteArray.size_append,ByteArray.size_append,s2]; omega)))))
  ·rw [if_neg c,if_neg c]
   exact Ev.iff_neg (by simp) (Ev.now _)
end Go.Proofs.YtgfjidlckocflaaDoor.PAll
end
section
namespace Go.Proofs.YtgfjidlckocflaaDoor.PAll
set_option maxRecDepth 100000
open Go.RowKit Go.Proofs.YtgfjidlckocflaaDoorW.PrintWords Go.Proofs.YtgfjidlckocflaaDoorW.PrintLast Go.Proofs.YtgfjidlckocflaaDoorW.PrintMore
theorem rd33 (l:List S33) (i:Nat):AW l (i:Int)=l.getD i z33:=by unfold AW; rw [Int.toNat_natCast]
theorem rd33h (l:List S33) (i:Nat) (h:i<l.length):AW l (i:Int)=l[i]:=by
 rw [rd33,List.getD_eq_getElem?_getD,List.getElem?_eq_getElem h]; rfl
def fe (t:Int):List S33→Int
 |[]=>0
 |x::l=>if (BN x t).2=0 then fe t l else (BN x t).2
theorem DV {x:S33} {t:Int} (h:(BN x t).2=0):vd x.f0 x.f1 x.f2=true:=by
 cases v:vd x.f0 x.f1 x.f2 with
 |true=>rfl
 |false=>unfold BN at h; rw [v,if_neg (by simp)] at h; exact absurd h (by simp)
theorem DY (t:Int) (x:S33) (l:List S33):fe t (x::l)=if (BN x t).2=0 then fe t l else (BN x t).2:=rfl
theorem E9 {t:Int} :∀ {l:List S33},fe t l=0→∀x∈l,(BN x t).2=0
 |[],_,x,hx=>by simp at hx
 | y ::l,h,x,hx=>by
  unfold fe at h
  by_cases c:(BN y t).2=0
  ·rw [if_pos c] at h
   rcases List.mem_cons.mp hx with rfl|hx
   ·exact c
   ·exact E9 h x hx
  ·rw [if_neg c] at h; exact absurd h c
def Ba (l:List S33) (t:Int):List ByteArray×Int:=if l.length>100 then ([],3) else if fe t l=0 then ((BT l).map fun x=>(BN x t).1,0) else ([],fe t l)
theorem kok {x:S33} (V:vd x.f0 x.f1 x.f2=true):0≤x.f0∧x.f0≤1000∧ -1000≤x.f1∧x.f1≤1000∧(x.f1=0→0<x.f0):=by
 have a:=BZ.mp V
 refine ⟨a.1,a.2.1,a.2.2.1,a.2.2.2.1,fun hv=> ?_⟩
 have g:=a.2.2.2.2.1
 rw [hv,Int.natAbs_zero,Nat.gcd_zero_right] at g
 omega
theorem C3 {l:List S33} {t:Int} (hl:l.length≤100) (h:fe t l=0):BO.f l=some (BT l):=by
 unfold BO.f
 rw [if_pos ⟨hl,fun x hx=>kok (DV (E9 h x hx))⟩]
theorem EB {l:List S33} (hl:l.length≤100):BE.f l=some l:=by
 unfold BE.f
 by_cases c:(l.length:Int)=0
 ·have e:l=[]:=List.eq_nil_of_length_eq_zero (by omega)
  subst e; rfl
 ·rw [if_neg c,Option.bind_some,if_pos (by simp only [List.length_nil]; omega)]; rfl
theorem D0 (t:Int) (s:List S33) (hs:s.length≤1000):∀(d i:Nat) (out:List ByteArray),i+d=s.length→out.length=i→Ev (fun k=>Ap.l1 k t out s (s.length:Int) (i:Int)) (out++(s.drop i).map (fun x=>(BN x t).1),0)
 | 0,i,out,h,ho=>by
  rw [List.drop_eq_nil_of_le (by omega),List.map_nil,List.append_nil]
  exact Ev.step (fun k=>rfl) (Ev.iff_neg (by omega) (Ev.now _))
 | d+1,i,out,h,ho=>by
  have hi:i<s.length:=by omega
  have ih:=D0 t s hs d (i+1) (out++[(BN s[i] t).1]) (by omega) (by simp [ho])
  rw [List.append_assoc] at ih
  refine Ev.step (fun k=>rfl) (Ev.iff_pos (by omega) (Ev.iff_pos (by omega) (Ev.iff_pos (by omega) ?_)))
  rw [rd33h s i hi]
  refine Ev.bind (Bv s[i] t) (Ev.iff_pos (by omega) ?_)
  rw [wsucc i (by omega),List.drop_eq_getElem_cons hi,List.map_cons]
  exact ih
theorem D1 (t:Int) (l:List S33) (hl:l.length≤100):∀(d i:Nat),i+d=l.length→(fe t l=fe t (l.drop i))→Ev (fun k=>Ap.l0 k l t l (l.length:Int) (i:Int)) (if fe t l=0 then ((BT l).map fun x=>(BN x t).1,0) else ([],fe t l))
 | 0,i,h,hf=>by
  rw [List.drop_eq_nil_of_le (by omega)] at hf
  have hf:fe t l=0:=hf
  rw [if_pos hf]
  have hlen:(BT l).length=l.length:=Bq (C3 hl hf)
  refine Ev.step (fun k=>rfl) (Ev.iff_neg (by omega) (Ev.bindc (EB hl) (Ev.bindc (C3 hl hf) ?_)))
  exact D0 t (BT l) (by omega) (BT l).length 0 [] (by omega) rfl
 | d +1,i,h,hf=>by
  have hi:i<l.length:=by omega
  rw [List.drop_eq_getElem_cons hi] at hf
  refine Ev.step (fun k=>rfl) (Ev.iff_pos (by omega) (Ev.iff_pos (by omega) (Ev.iff_pos (by omega) ?_)))
  rw [rd33h l i hi]
  refine Ev.bind (Bv l[i] t) ?_
  rw [DY] at hf
  by_cases c:(BN l[i] t).2=0
  ·rw [if_pos c] at hf
   refine Ev.iff_pos c ?_
   rw [wsucc i (by omega)]
   exact D1 t l hl d (i+1) (by omega) hf
  ·rw [if_neg c] at hf
   refine Ev.iff_neg c ?_
   rw [if_neg (by rw [hf]; exact c),hf]
   exact Ev.now _
theorem DG (l:List S33) (t:Int):Ev (fun k=>Ap.f k l t) (Ba l t):=by
 unfold Ap.f Ba
 by_cases c:l.length>100
 ·rw [if_pos c]; exact Ev.iff_pos (by omega) (Ev.now _)
 ·rw [if_neg c]; exact Ev.iff_neg (by omega) (D1 t l (by omega) l.length 0 (by omega) rfl)
def LEk (l:List S33) (i j:Nat):Prop:=ky l i<ky l j∨(ky l i=ky l j∧i≤j)
theorem By (l:List S33) (n:Nat):(BI l n).Perm (List.range n):=List.mergeSort_perm _ _
theorem Cz (l:List S33) (n:Nat):(BI l n).Pairwise (LEk l):=by
 have h:=List.pairwise_mergeSort (le:=fun i j=>decide (ky l i<ky l j∨(ky l i=ky l j∧i≤j))) (fun a b c h1 h2=>by simp only [decide_eq_true_eq] at h1 h2 ⊢; omega) (fun a b=>by simp only [Bool.or_eq_true,decide_eq_true_eq]; omega) (List.range n)
 exact h.imp (fun h=>of_decide_eq_true h)
theorem DE {l:List S33} {n:Nat} {r:List Nat} (hp:r.Perm (List.range n)) (hs:r.Pairwise (LEk l)):r=BI l n:=
 List.Perm.eq_of_pairwise (le:=LEk l) (fun a b _ _ h1 h2=>by unfold LEk at h1 h2; omega) hs (Cz l n) (hp.trans (By l n).symm)
theorem Ce {l:List S33} {n x:Nat} (h:x∈BI l n):x<n:=List.mem_range.mp ((By l n).mem_iff.mp h)
theorem DK {l:List S33} {i k:Nat} (S:List Nat) (hS:S=BI l i) (hk:k≤i) (h1:∀q,k≤q→(hq:q<S.length)→ky l S[q]>ky l i) (h2:k=0∨∃h:k-1<S.length,ky l S[k-1]≤ky l i):
    S.take k++i::S.drop k=BI l (i+1):=by
  have hlen:S.length=i:=by rw [hS,BP]
  have hpw:S.Pairwise (LEk l):=by rw [hS]; exact Cz _ _
  have hmem:∀x∈S,x<i:=fun x hx=>by rw [hS] at hx; exact Ce hx
  have hgt:∀y∈S.drop k,LEk l i y:=fun y hy=>by
    obtain ⟨q,hq,e⟩:=List.getElem_of_mem hy
    rw [List.length_drop] at hq
    rw [List.getElem_drop] at e
    have:=h1 (k+q) (by omega) (by omega)
    rw [e] at this
    exact .inl this
  have hle:∀x∈S.take k,LEk l x i:=fun x hx=>by
    obtain ⟨q,hq,e⟩:=List.getElem_of_mem hx
    rw [List.length_take] at hq
    rw [List.getElem_take] at e
    have hx2:=hmem x (List.mem_of_mem_take hx)
    rcases h2 with rfl|⟨hk1,h2⟩
    · omega
    · by_cases hqk:q=k-1
      · subst hqk
        rw [e] at h2
        unfold LEk; omega
      · have:=(List.pairwise_iff_getElem.mp hpw) q (k-1) (by omega) (by omega) (by omega)
        rw [e] at this
        unfold LEk at this ⊢; omega
  refine DE ?_ ?_
  · rw [List.range_succ]
    have e1:(S.take k++i::S.drop k).Perm (i::(S.take k++S.drop k)):=List.perm_middle
    rw [List.take_append_drop] at e1
    refine e1.trans ?_
    have e2:(i::S).Perm (i::List.range i):=List.Perm.cons _ (by rw [hS]; exact By _ _)
    refine e2.trans ?_
    exact (List.perm_append_comm (l₁:=[i]) (l₂:=List.range i))
  · have hsp:=hpw
    rw [←List.take_append_drop k S,List.pairwise_append] at hsp
    obtain ⟨p1,p2,p3⟩:=hsp
    rw [List.pairwise_append]
    refine ⟨p1,List.pairwise_cons.mpr ⟨hgt,p2⟩,fun x hx y hy=> ?_⟩
    rcases List.mem_cons.mp hy with rfl|hy
    · exact hle x hx
    · exact p3 x hx y hy
def ordS (l:List S33) (i:Nat):List S33:=(BI l i).map fun j=>l.getD j z33
theorem CR (l:List S33) (i:Nat):(ordS l i).length=i:=by unfold ordS; rw [List.length_map,BP]
theorem Cg {t:Int} {l:List S33} (hl:l.length≤100) {i:Nat} (hi:i<l.length) (hv:∀j,j≤i→vd (l.getD j z33).f0 (l.getD j z33).f1 (l.getD j z33).f2=true) {r0:List ByteArray×Int} (h0:Ev (fun k=>AX.l0 k l t (ordS l (i+1)) (wrap64 ((i:Int)+1))) r0):
  ∀(k:Nat),k≤i→(∀q,k≤q→(hq:q<(BI l i).length)→ky l (BI l i)[q]>ky l i)→Ev (fun f=>AX.l1 f l t (ordS l i) (i:Int) (k:Int)) r0
 | k,hk,h1=>by
  have hlen:=BP l i
  have hput:(k=0∨∃h:k-1<(BI l i).length,ky l (BI l i)[k-1]≤ky l i)→BQ.f (ordS l i) (k:Int) (AW l (i:Int)).f0 (AW l (i:Int)).f1 (AW l (i:Int)).f2=some (ordS l (i+1)):=fun h2=>by
   have hS:=DK (BI l i) rfl hk h1 h2
   have hol:=CR l i
   unfold BQ.f
   rw [if_pos (by omega),if_pos (by omega),if_pos (by omega),Int.toNat_natCast,rd33]
   unfold ordS
   rw [←hS,List.map_append,List.map_cons,List.map_take,List.map_drop]
  cases k with
  | zero=>
   refine Ev.step (fun k=>rfl) (Ev.iff_neg (by omega) (Ev.iff_pos (by omega) (Ev.iff_pos (by omega) (Ev.bindc (hput (.inl rfl)) h0))))
  | succ k=>
   have hkl:k<(BI l i).length:=by omega
   have hol:=CR l i
   have e1:wrap64 (((k+1:Nat):Int)-1)=(k:Int):=by rw [w64 (by omega) (by omega)]; omega
   have eg:AW (ordS l i) (k:Int)=l.getD (BI l i)[k] z33:=by
    rw [rd33h _ k (by omega)]
    unfold ordS
    rw [List.getElem_map]
   have hm:=Ce (List.getElem_mem hkl)
   refine Ev.step (fun k=>rfl) (Ev.iff_pos (by omega) (Ev.iff_pos (by omega) (Ev.iff_pos (by omega) ?_)))
   rw [e1,eg,rd33]
   refine Ev.iff_pos (by omega) (Ev.iff_pos (by omega) (Ev.bind (Cy (hv i (Nat.le_refl _)) (hv _ (Nat.le_of_lt hm))) ?_))
   show Ev (fun n=>if decide (ky l i<ky l (BI l i)[k])=true then _ else _) _
   by_cases hc:ky l i<ky l (BI l i)[k]
   ·refine Ev.iff_pos (by simpa using hc) (Cg hl hi hv h0 k (by omega) fun q hq1 hq2=> ?_)
    by_cases e:q=k
    ·subst e; exact hc
    ·exact h1 q (by omega) hq2
   ·have hp:=hput (.inr ⟨by omega,by simpa using Int.not_lt.mp hc⟩)
    rw [rd33] at hp
    exact Ev.iff_neg (by simpa using hc) (Ev.bindc hp h0)
theorem Cf (t:Int) (s:List S33) (hs:s.length≤1000):∀(d i:Nat) (out:List ByteArray),i+d=s.length→out.length=i→Ev (fun k=>AX.l2 k t s out (i:Int)) (out++(s.drop i).map (fun x=>(BN x t).1),0)
 | 0,i,out,h,ho=>by
  rw [List.drop_eq_nil_of_le (by omega),List.map_nil,List.append_nil]
  exact Ev.step (fun k=>rfl) (Ev.iff_neg (by omega) (Ev.now _))
 | d+1,i,out,h,ho=>by
  have hi:i<s.length:=by omega
  have ih:=Cf t s hs d (i+1) (out++[(BN s[i] t).1]) (by omega) (by simp [ho])
  rw [List.append_assoc] at ih
  refine Ev.step (fun k=>rfl) (Ev.iff_pos (by omega) (Ev.iff_pos (by omega) ?_))
  rw [rd33h s i hi]
  refine Ev.bind (CU s[i] t) (Ev.iff_pos (by omega) ?_)
  rw [wsucc i (by omega),List.drop_eq_getElem_cons hi,List.map_cons]
  exact ih
theorem Dy (l:List S33):ordS l l.length=BT l:=rfl
theorem Ch (t:Int) (l:List S33) (hl:l.length≤100):∀(d i:Nat),i+d=l.length→(fe t l=fe t (l.drop i))→(∀j,j<i→(BN (l.getD j z33) t).2=0)→Ev (fun k=>AX.l0 k l t (ordS l i) (i:Int)) (if fe t l=0 then ((BT l).map fun x=>(BN x t).1,0) else ([],fe t l))
 | 0,i,h,hf,hv=>by
  rw [List.drop_eq_nil_of_le (by omega)] at hf
  have hf:fe t l=0:=hf
  obtain rfl:i=l.length:=by omega
  rw [if_pos hf,Dy]
  have hlen:(BT l).length=l.length:=Bq (C3 hl hf)
  exact Ev.step (fun k=>rfl) (Ev.iff_neg (by omega) (Cf t (BT l) (by omega) (BT l).length 0 [] (by omega) rfl))
 | d + 1,i,h,hf,hv=>by
  have hi:i<l.length:=by omega
  rw [List.drop_eq_getElem_cons hi] at hf
  refine Ev.step (fun k=>rfl) (Ev.iff_pos (by omega) (Ev.iff_pos (by omega) ?_))
  rw [rd33h l i hi]
  refine Ev.bind (CU l[i] t) ?_
  rw [DY] at hf
  by_cases c:(BN l[i] t).2=0
  ·rw [if_pos c] at hf
   refine Ev.iff_pos c ?_
   have hv':∀j,j<i+1→(BN (l.getD j z33) t).2=0:=fun j hj=>by
    by_cases e:j=i
    ·subst e; rw [List.getD_eq_getElem?_getD,List.getElem?_eq_getElem hi]; exact c
    ·exact hv j (by omega)
   have ih:=Ch t l hl d (i+1) (by omega) hf hv'
   rw [←wsucc i (by omega)] at ih
   rw [CR]
   exact Cg hl hi (fun j hj=>DV (hv' j (by omega))) ih i (Nat.le_refl _) (fun q hq1 hq2=>by rw [BP] at hq2; omega)
  ·rw [if_neg c] at hf
   refine Ev.iff_neg c ?_
   rw [if_neg (by rw [hf]; exact c),hf]
   exact Ev.now _
theorem De (l:List S33) (t:Int):Ev (fun k=>AX.f k l t) (Ba l t):=by
 unfold AX.f Ba
 by_cases c:l.length>100
 ·rw [if_pos c]; exact Ev.iff_pos (by omega) (Ev.now _)
 ·rw [if_neg c]; have e0:ordS l 0=[]:=by unfold ordS BI; simp
  have h0:=Ch t l (by omega) l.length 0 (by omega) rfl (fun j hj=>by omega)
  rw [e0] at h0
  exact Ev.iff_neg (by omega) h0
theorem DS (a:List ByteArray) (ha:a.length≤1000):∀(d i:Nat),i+d=a.length→Ev (fun k=>Aj.l0 k a a (i:Int)) true
 |0,i,h=>Ev.step (fun k=>rfl) (Ev.iff_neg (by omega) (Ev.now _))
 | d+1,i,h=>by
  have ih:=DS a ha d (i+1) (by omega)
  refine Ev.step (fun k=>rfl) (Ev.iff_pos (by omega) (Ev.iff_pos (by omega) (Ev.iff_pos (by omega) (Ev.iff_pos rfl ?_))))
  rw [wsucc i (by omega)]
  exact ih
theorem DH {l:List S33} {t:Int} :(Ba l t).1.length≤1000∧((Ba l t).2=0→(Ba l t).1.length=l.length):=by
 unfold Ba
 by_cases c:l.length>100
 ·rw [if_pos c]; simp
 ·rw [if_neg c]
  by_cases f:fe t l=0
  ·rw [if_pos f]
   have hlen:(BT l).length=l.length:=Bq (C3 (by omega) f)
   simp [hlen]; omega
  ·rw [if_neg f]; simp [f]
theorem E5 (l:List S33) (t:Int) (hl:l.length≤102):∀(d i:Nat),i+d=l.length→Ev (fun k=>culetlaw48_SettingsSheet.l0 k l t (i:Int)) true
 |0,i,h=>Ev.step (fun k=>rfl) (Ev.iff_neg (by omega) (Ev.step (f:=fun _=>some true) (fun k=>rfl) (Ev.now _)))
 | d +1,i,h=>by
  have hi:i<l.length:=by omega
  have ih:=E5 l t hl d (i+1) (by omega)
  refine Ev.step (fun k=>rfl) (Ev.iff_pos (by omega) ?_)
  by_cases c:(i:Int)<10
  ·rw [decide_eq_true c]
   refine Ev.step (fun k=>rfl) (Ev.iff_pos (by omega) ?_)
   rw [rd33h l i hi]
   refine Ev.bind (Bv l[i] t) (Ev.bind (CU l[i] t) (Ev.iff_pos rfl (Ev.iff_pos rfl ?_)))
   rw [wsucc i (by omega)]
   exact ih
  ·rw [decide_eq_false c]
   exact Ev.step (f:=fun _=>some true) (fun k=>rfl) (Ev.now _)
end Go.Proofs.YtgfjidlckocflaaDoor.PAll
end
section
namespace Go.Proofs.YtgfjidlckocflaaDoor.PAll
set_option maxRecDepth 100000
open Go.RowKit Go.Proofs.YtgfjidlckocflaaDoorW.PrintWords Go.Proofs.YtgfjidlckocflaaDoorW.PrintLast Go.Proofs.YtgfjidlckocflaaDoorW.PrintMore
theorem EA:AU.f 60 96 0 96=some (0,0):=by decide+kernel
theorem ex_line:BN ⟨3,-4,1⟩ 96=(bs [52,32,55,53,48,32,100,111,119,110],0):=by
 have h4:Go.Lib.decDigits 4=[52]:=by rw [Go.Lib.decDigits]; rfl
 have h7:Go.Lib.decDigits 750=[55,53,48]:=by
  rw [Go.Lib.decDigits,dif_neg (by decide),Go.Lib.decDigits,dif_neg (by decide),Go.Lib.decDigits]; rfl
 have e:BN ⟨3,-4,1⟩ 96=(B9 ((4:Nat):Int)++((⟨#[32]⟩:ByteArray)++(B9 ((750:Nat):Int)++(⟨#[32,100,111,119,110]⟩:ByteArray))),0):=rfl
 rw [e,C7,C7,h4,h7]
 rfl
theorem D8:Ev (fun k=>Ax.f k) true:=by
 have h1:Ev (fun k=>Aa.f k 3 (-4) 1 96) (bs [52,32,55,53,48,32,100,111,119,110],0):=by
  have:=Bv ⟨3,-4,1⟩ 96
  rw [ex_line] at this
  exact this
 have h2:Ev (fun k=>AU.f k 96 0 96) (0,0):=Ev.of (fun k=>AU.mono _ _ _ k) EA
 have h3:Ev (fun k=>Al.f k 3 (-4) 1) true:=Bx 3 (-4) 1
 have ht:(bs [52,32,55,53,48,32,100,111,119,110]).toList=([52,32,55,53,48,32,100,111,119,110]:List UInt8):=ByteArray.toList_eq _
 unfold Ax.f
 refine Ev.bindc (show Ad.f 1 96=some (4,0,0) by decide+kernel) (Ev.bindc (show Ad.f 1 80=some (3,8,0) by decide+kernel) (Ev.bind h1 (Ev.bind h2 ?_)))
 refine Ev.iff_pos rfl (Ev.iff_pos rfl (Ev.iff_pos rfl (Ev.iff_pos rfl (Ev.iff_pos rfl (Ev.iff_pos rfl (Ev.iff_pos rfl (Ev.iff_pos rfl (Ev.iff_pos ht (Ev.iff_pos rfl ?_)))))))))
 exact Ev.bindc (show B0.f 96=some true by decide+kernel) (Ev.iff_pos rfl (Ev.bind h3 (Ev.now _)))
theorem sheet_law (l:List S33) (t:Int):∃k,culetlaw48_SettingsSheet.f k l t=some true:=by
 refine Ev.rounds ?_
 unfold culetlaw48_SettingsSheet.f
 refine Ev.bind D8 (Ev.iff_pos rfl ?_)
 by_cases c:(l.length:Int)>102
 ·rw [decide_eq_true c]
  exact Ev.step (f:=fun k=>(Ax.f k).bind fun x=>some x) (fun k=>rfl) (Ev.bind D8 (Ev.now _))
 ·rw [decide_eq_false c]
  refine Ev.step (f:=fun k=>(Ap.f k l t).bind fun bt239=>((AX.f k l t).bind fun bt243=>((Aj.f k bt239.1 bt243.1).bind fun t247=>(if t247=true then (if bt239.2=bt243.2 then (if bt239.2=0 then (culetlaw48_SettingsSheet.j1 k l t ((bt239.1.length:Int) !=(l.length:Int))) else (culetlaw48_SettingsSheet.j1 k l t false)) else (culetlaw48_SettingsSheet.j1 k l t true)) else (culetlaw48_SettingsSheet.j1 k l t true))))) (fun k=>rfl) ?_
  refine Ev.bind (DG l t) (Ev.bind (De l t) ?_)
  have hs:=DH (l:=l) (t:=t)
  have e1:Ev (fun k=>Aj.f k (Ba l t).1 (Ba l t).1) true:=by
   unfold Aj.f
   exact Ev.iff_pos rfl (DS _ hs.1 (Ba l t).1.length 0 (by omega))
  have e2:Ev (fun k=>culetlaw48_SettingsSheet.j1 k l t false) true:=Ev.step (f:=fun k=>culetlaw48_SettingsSheet.l0 k l t 0) (fun k=>rfl) (E5 l t (by omega) l.length 0 (by omega))
  refine Ev.bind e1 (Ev.iff_pos rfl (Ev.iff_pos rfl ?_))
  by_cases z:(Ba l t).2=0
  ·refine Ev.iff_pos z ?_
   rw [hs.2 z,bne_self_eq_false]
   exact e2
  ·exact Ev.iff_neg z e2
end Go.Proofs.YtgfjidlckocflaaDoor.PAll
end
