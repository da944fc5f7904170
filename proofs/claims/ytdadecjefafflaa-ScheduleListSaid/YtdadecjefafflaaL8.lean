/- A part of what the law's proof leans on. PACKED BY pack.py of this repo. -/
import Derived.Test.YtdadecjefafflaaL7
set_option linter.unusedVariables false
set_option linter.unusedSimpArgs false
set_option linter.defProp false
set_option linter.unusedSectionVars false
section
namespace Go.Proofs.Ytdadecjefafflaa.PLst
open Go.RowKit Go.Proofs.YtdadecjefafflaaW.PrintWords Go.Proofs.YtdadecjefafflaaW.PrintLast Go.Proofs.YtdadecjefafflaaW.PrintMore
theorem list_j1 {m:Int} {p:List S42} {l:List S47} {e:Int} (hp:p.length≤42) (hF:∀x∈p,x.f3.length≤42) (h:e=0→C4 m (p.map conv) l=0):Ev (fun k=>QLi.j1 k l e false m p) true:=by
 refine Ev.step (f:=fun k=>(if e=0 then ((Al.f k m p).bind fun bt395=>((Ah.f k bt395.1 bt395.2 l).bind fun t399=>(some (t399==0)))) else (some true))) (fun k=>rfl) ?_
 by_cases he:e=0
 ·refine Ev.iff_pos he (Ev.bind (He m p zE) (Ev.bind (FD m _ l (sh_of p hF)) ?_))
  rw [h he]
  exact Ev.now _
 ·exact Ev.iff_neg he (Ev.now _)
theorem list_j0 {m:Int} {p:List S42} {order:List Int} (hp:p.length≤42) (hF2:∀x∈p,x.f3.length≤42∧x.f0.size≤40):Ev (fun k=>QLi.j0 k order false m p) true:=by
 have hF:∀x∈p,x.f3.length≤42:=fun x hx=>(hF2 x hx).1
 have O:=He m p zE
 have S:=sh_of p hF
 have hlm:(p.map conv).length=p.length:=List.length_map _
 refine Ev.step (f:=fun k=>((Al.f k m p).bind fun bt345=>((Ag.f k bt345.1 bt345.2 order).bind fun bt349=>((AR.f k m p order).bind fun bt353=>((Al.f k m p).bind fun bt357=>((Ad.f k bt357.1 bt357.2).bind fun bt361=>((AZ.f k m p).bind fun bt365=>((Al.f k m p).bind fun bt369=>((Ap.f k bt369.1 bt369.2).bind fun bt373=>((B0.f k m p).bind fun bt375=>((Al.f k m p).bind fun bt377=>((B2.f k bt377.1 bt377.2).bind fun bt381=>((Am.f k m p).bind fun bt385=>((Ar.f k bt349.1).bind fun t389=>((Aw.f k t389 bt353.1).bind fun t392=>(if t392=true then (if bt349.2=bt353.2 then ((AT.f k bt361.1 bt365.1).bind fun t393=>(if t393=true then (if bt361.2=bt365.2 then (if bt373.1=bt375.1 then (if bt373.2=bt375.2 then ((AT.f k bt381.1 bt385.1).bind fun t394=>(if t394=true then (QLi.j1 k bt349.1 bt349.2 (bt381.2 !=bt385.2) m p) else (QLi.j1 k bt349.1 bt349.2 true m p))) else (QLi.j1 k bt349.1 bt349.2 true m p)) else (QLi.j1 k bt349.1 bt349.2 true m p)) else (QLi.j1 k bt349.1 bt349.2 true m p)) else (QLi.j1 k bt349.1 bt349.2 true m p))) else (QLi.j1 k bt349.1 bt349.2 true m p)) else (QLi.j1 k bt349.1 bt349.2 true m p))))))))))))))))) (fun k=>rfl) ?_
 have fin:∀(l:List S47) (e:Int) (P:List Int) (eP:Int) (b eb:Int) (D:List Int) (eD:Int),l.length≤1000→P.length≤1000→D.length≤1000→
   Ev (fun k=>Ag.f k m (p.map conv) order) (l,e)→Ev (fun k=>AR.f k m p order) (l.map to54,e)→
   Ev (fun k=>Ad.f k m (p.map conv)) (P,eP)→Ev (fun k=>AZ.f k m p) (P,eP)→
   Ev (fun k=>Ap.f k m (p.map conv)) (b,eb)→Ev (fun k=>B0.f k m p) (b,eb)→
   Ev (fun k=>B2.f k m (p.map conv)) (D,eD)→Ev (fun k=>Am.f k m p) (D,eD)→(e=0→C4 m (p.map conv) l=0)→
   Ev (fun k=>((Al.f k m p).bind fun bt345=>((Ag.f k bt345.1 bt345.2 order).bind fun bt349=>((AR.f k m p order).bind fun bt353=>((Al.f k m p).bind fun bt357=>((Ad.f k bt357.1 bt357.2).bind fun bt361=>((AZ.f k m p).bind fun bt365=>((Al.f k m p).bind fun bt369=>((Ap.f k bt369.1 bt369.2).bind fun bt373=>((B0.f k m p).bind fun bt375=>((Al.f k m p).bind fun bt377=>((B2.f k bt377.1 bt377.2).bind fun bt381=>((Am.f k m p).bind fun bt385=>((Ar.f k bt349.1).bind fun t389=>((Aw.f k t389 bt353.1).bind fun t392=>(if t392=true then (if bt349.2=bt353.2 then ((AT.f k bt361.1 bt365.1).bind fun t393=>(if t393=true then (if bt361.2=bt365.2 then (if bt373.1=bt375.1 then (if bt373.2=bt375.2 then ((AT.f k bt381.1 bt385.1).bind fun t394=>(if t394=true then (QLi.j1 k bt349.1 bt349.2 (bt381.2 !=bt385.2) m p) else (QLi.j1 k bt349.1 bt349.2 true m p))) else (QLi.j1 k bt349.1 bt349.2 true m p)) else (QLi.j1 k bt349.1 bt349.2 true m p)) else (QLi.j1 k bt349.1 bt349.2 true m p)) else (QLi.j1 k bt349.1 bt349.2 true m p))) else (QLi.j1 k bt349.1 bt349.2 true m p)) else (QLi.j1 k bt349.1 bt349.2 true m p))))))))))))))))) true:=fun l e P eP b eb D eD n1 n2 n3 h1 h2 h3 h4 h5 h6 h7 h8 h9=>by
  refine Ev.bind O (Ev.bind h1 (Ev.bind h2 (Ev.bind O (Ev.bind h3 (Ev.bind h4 (Ev.bind O (Ev.bind h5 (Ev.bind h6 (Ev.bind O (Ev.bind h7 (Ev.bind h8 (Ev.bind (G7 l n1) (Ev.bind (same_eq (l.map to54) (by rw [List.length_map]; exact n1)) ?_)))))))))))))
  refine Ev.iff_pos rfl (Ev.iff_pos rfl (Ev.bind (sameI P n2) (Ev.iff_pos rfl (Ev.iff_pos rfl (Ev.iff_pos rfl (Ev.iff_pos rfl (Ev.bind (sameI D n3) (Ev.iff_pos rfl ?_))))))))
  rw [show (eD !=eD)=false by simp]
  exact list_j1 hp hF h9
 have hP:=F2 m (p.map conv) S
 have hP2:=EB m p hF2
 have hB:=HZ m (p.map conv) S
 have hB2:=GA m p hF2
 have hD:=HT m (p.map conv) S
 have hD2:=rby_eq m p hF2 zE
 rw [hlm] at hP hD
 have n2:(if BR m (p.map conv)=true then (plist (p.map conv) p.length,(0:Int)) else ([],1)).1.length≤1000:=by
  split
  ·show (plist _ _).length≤1000
   rw [Bu]; omega
  ·simp
 have n3:(if BR m (p.map conv)=true then (BQ (p.map conv) (idxL p.length),(0:Int)) else ([],1)).1.length≤1000:=by
  split
  ·show (BQ _ _).length≤1000
   rw [CG,Ca]; omega
  ·simp
 by_cases h:BR m (p.map conv)=true∧Di p.length order
 ·obtain ⟨hv,D⟩:=h
  have V:=Vt.of hv
  obtain ⟨M,rfl⟩:=Int.eq_ofNat_of_zero_le (show 0≤m by have:=V.m1; omega)
  have D':Di (p.map conv).length order:=by rw [hlm]; exact D
  have hc:=Gr hv D'.po
  have hl:=(EO hc).2.1
  exact fin _ 0 _ _ _ _ _ _ (by rw [hl,hlm]; omega) n2 n3 (Hh S hv D') (Eu hF2 hv D) hP hP2 hB hB2 hD hD2 (fun _=>hc)
 ·exact fin [] 1 _ _ _ _ _ _ zA5 n2 n3 (List_no S (by rw [hlm]; exact h)) (FS hF2 hp h) hP hP2 hB hB2 hD hD2 (fun h=>absurd h zA0)
theorem list_law (m:Int) (p:List S42) (order:List Int):∃k,QLi.f k m p order=some true:=by
 have stop:Ev (fun k=>QLi.j0 k order true m p) true:=
  Ev.step (f:=fun k=>(B4.f k).bind fun t=>(some t)) (fun k=>rfl) (Ev.bind FH (Ev.now _))
 refine Ev.rounds (g:=fun k=>QLi.f k m p order) (Ev.bind FH (Ev.iff_pos rfl ?_))
 obtain ⟨b,hb,hb2⟩:=few2_eq m p
 refine Ev.bind hb ?_
 cases b with
 |false=>exact Ev.iff_neg zA5 stop
 | true=>
  refine Ev.iff_pos rfl ?_
  obtain ⟨hp,hF⟩:=hb2 rfl
  by_cases ho:(order.length:Int)>45
  ·rw [decide_eq_true ho]; exact stop
  ·rw [decide_eq_false ho]; exact list_j0 hp hF
end Go.Proofs.Ytdadecjefafflaa.PLst
end
