/- A part of what the law's proof leans on. PACKED BY pack.py of this repo. -/
import Derived.Test.YtpejalpgficopaaGreatDoorF3
set_option linter.unusedVariables false
set_option linter.unusedSimpArgs false
set_option linter.unusedSectionVars false
set_option linter.defProp false
set_option maxRecDepth 100000
open Go.IntKind (i64 u64 u32)
section
namespace Go.Proofs.YtpejalpgficopaaGreatDoorW.PrintLast
open Go.Proofs.YtpejalpgficopaaGreatDoorW.PrintWords (Aside0)
def I5 (md:Region.Mode) (o:Oper):List Nat:=(o.after.toList.filter (fun e=>Region.binds md e)).map (fun e=>e.on)
def Mg (md:Region.Mode) (ops:Array Oper) (i:Nat) (oi:Oper):List Nat:=(List.range ops.size).filter fun j=> !(j==i)&&match ops[j]? with
 |some oj=> !(oj.after.any (fun e=>Region.binds md e&&e.on==i)||oi.apart ops oj)
 |none=>false
def rtab (md:Region.Mode) (ops:Array Oper):Bool×List (List Nat×List Nat):=(Region.noSelect ops,(List.range ops.size).map fun i=>match ops[i]? with
 |some o=>(I5 md o,Mg md ops i o)
 |none=>([],[]))
def GY (T:List (List Nat×List Nat)) (l:List Bool) (i:Nat):Bool:= !l.getD i true&&match T[i]? with
 |some r=>r.1.all (fun j=>l.getD j false)
 |none=>false
def Kq (T:List (List Nat×List Nat)) (l:List Bool):List Nat:=(List.range T.length).filter (GY T l)
def NQ (T:List (List Nat×List Nat)) (l:List Bool) (i:Nat):Bool:=match T[i]? with
 |some r=>r.2.all (fun j=>l.getD j true)
 |none=>false
def KU (T:List (List Nat×List Nat)) (l:List Bool):Bool:=(List.range T.length).all fun j=> !l.getD j false||match T[j]? with
 |some r=>r.1.all (fun k=>l.getD k false)
 |none=>true
def JW (T:List (List Nat×List Nat)) (i:Nat):Nat→Nat→Bool
 |0,_=>false
 | fuel+1,d=>match T[d]? with
  |some r=>r.1.any fun j=>j==i||JW T i fuel j
  |none=>false
def PD (T:List (List Nat×List Nat)) (l:List Bool) (ds:List Nat) (i:Nat):Bool:=ds.all fun d=>l.getD d true||JW T i T.length d
section
variable {md:Region.Mode} {ops:Array Oper} {T:Bool×List (List Nat×List Nat)} {l l' li lj lk:Array Bool} {ds:List Nat} {i j k:Nat}
theorem gd (l:Array Bool) (j:Nat) (b:Bool):l.getD j b=l.toList.getD j b:=by simp [Array.getD_eq_getD_getElem?,List.getD_eq_getElem?_getD]
theorem Lw (o:Oper) (p:Nat→Bool):o.after.all (fun e=> !Region.binds md e||p e.on)=(I5 md o).all p:=by
 unfold I5
 rw [←Array.all_toList]
 induction o.after.toList with
 |nil=>rfl
 | cons e r ih=>
  rw [List.all_cons,ih,List.filter_cons]
  cases h:Region.binds md e<;>simp
theorem Pl (o:Oper) (p:Nat→Bool):o.after.any (fun e=>Region.binds md e&&p e.on)=(I5 md o).any p:=by
 unfold I5
 rw [←Array.any_toList]
 induction o.after.toList with
 |nil=>rfl
 | cons e r ih=>
  rw [List.any_cons,ih,List.filter_cons]
  cases h:Region.binds md e<;>simp
theorem GX:(rtab md ops).2.length=ops.size:=by simp [rtab]
theorem Hx {o:Oper} (h:ops[i]? =some o):(rtab md ops).2[i]? =some (I5 md o,Mg md ops i o):=by
 have hi:=(Array.getElem?_eq_some_iff.1 h).1
 unfold rtab
 rw [List.getElem?_map,List.getElem?_range hi,Option.map_some,h]
theorem Hy (h:ops[i]? =none):(rtab md ops).2[i]? =none:=by
 have hi:ops.size≤i:=Array.getElem?_eq_none_iff.1 h
 exact List.getElem?_eq_none (by rw [GX]; exact hi)
theorem Nr:GY (rtab md ops).2 l.toList i=(!l.getD i true&&((ops[i]?).map (·.after.all fun e=> !Region.binds md e||l.getD e.on false)).getD false):=by
 unfold GY
 rw [gd]
 cases h:ops[i]? with
 |none=>rw [Hy h]; rfl
 | some o=>
  rw [Hx h]
  simp only [Option.map_some,Option.getD_some]
  rw [←Lw]
  simp only [gd]
theorem Kp:Region.ready md ops l=Kq (rtab md ops).2 l.toList:=by
 unfold Region.ready Kq
 rw [GX]
 refine List.filter_congr (fun i _=> ?_)
 rw [Nr]
theorem PG:Region.free md ops l i=NQ (rtab md ops).2 l.toList i:=by
 unfold Region.free NQ
 cases h:ops[i]? with
 |none=>rw [Hy h]
 | some oi=>
  rw [Hx h]
  simp only [Mg]
  rw [List.all_filter]
  congr 1
  funext j
  rw [gd]
  cases hj:ops[j]? with
  |none=>cases (j==i)<;>cases (l.toList.getD j true)<;>simp
  | some oj=>
   cases (j==i)<;>cases (l.toList.getD j true)<;>cases (oj.after.any (fun e=>Region.binds md e&&e.on==i)||oi.apart ops oj)<;>simp_all
theorem Q3:Region.closedB md ops l=KU (rtab md ops).2 l.toList:=by
 unfold Region.closedB KU
 rw [GX]
 congr 1
 funext j
 rw [gd]
 cases h:ops[j]? with
 |none=>rw [Hy h]
 | some o=>
  rw [Hx h]
  simp only
  rw [←Lw]
  simp only [gd]
theorem N6:∀(fuel d:Nat),Region.reachB md ops i fuel d=JW (rtab md ops).2 i fuel d
 |0,_=>rfl
 | fuel+1,d=>by
  unfold Region.reachB JW
  cases h:ops[d]? with
  |none=>rw [Hy h]
  | some o=>
   rw [Hx h]
   simp only
   rw [←Pl]
   congr 1
   funext e
   rw [N6 fuel]
theorem last_eq:Region.lastB md ops l ds i=PD (rtab md ops).2 l.toList ds i:=by
 unfold Region.lastB PD
 rw [GX]
 congr 1
 funext d
 rw [gd,N6]
theorem Jz (h:GY T.2 l.toList i=true) (hT:rtab md ops=T):(Region.ready md ops l).contains i=true:=by
 subst hT
 rw [Kp]
 unfold Kq
 rw [List.contains_iff_mem,List.mem_filter,List.mem_range]
 refine ⟨?_,h⟩
 unfold GY at h
 rw [zB] at h
 cases hq:(rtab md ops).2[i]? with
 |none=>rw [hq] at h; simp at h
 |some r=>exact (List.getElem?_eq_some_iff.1 hq).1
theorem Nn (h:(l.toList.set i true==l'.toList)=true):(l.setIfInBounds i true==l')=true:=by
 rw [beq_iff_eq] at h ⊢
 apply Array.ext'
 rw [Array.toList_setIfInBounds]
 exact h
def anyT (T:Bool×List (List Nat×List Nat)) (l l':List Bool) (i:Nat):Bool:=T.1&&NQ T.2 l i&&GY T.2 l i&&(l.set i true==l')
theorem ET (hT:rtab md ops=T) (h:anyT T l.toList l'.toList i=true):anyB md ops l l' i=true:=by
 simp only [anyT,zB] at h
 obtain ⟨⟨⟨h1,h2⟩,h3⟩,h4⟩:=h
 have h5:=Jz h3 hT
 have h6:=Nn h4
 subst hT
 simp only [anyB,zB]
 exact ⟨⟨⟨h1,by rw [PG]; exact h2⟩,h5⟩,h6⟩
def QI (T:Bool×List (List Nat×List Nat)) (ds:List Nat) (l l':List Bool) (i:Nat):Bool:=T.1&&NQ T.2 l i&&GY T.2 l i&&KU T.2 l&&PD T.2 l ds i&&(l.set i true==l')
theorem take_of (hT:rtab md ops=T) (h:QI T ds l.toList l'.toList i=true):Mu md ops ds l l' i=true:=by
 simp only [QI,zB] at h
 obtain ⟨⟨⟨⟨⟨h1,h2⟩,h3⟩,h4⟩,h5⟩,h6⟩:=h
 have h7:=Jz h3 hT
 have h8:=Nn h6
 subst hT
 simp only [Mu,zB]
 exact ⟨⟨⟨⟨⟨h1,by rw [PG]; exact h2⟩,h7⟩,by rw [Q3]; exact h4⟩,by rw [last_eq]; exact h5⟩,h8⟩
theorem Gi (hT:rtab md ops=T) (h:(Kq T.2 l.toList==[i]&&l.toList.set i true==l'.toList)=true):ML md ops l l' i=true:=by
 simp only [zB] at h
 obtain ⟨h1,h2⟩:=h
 subst hT
 simp only [ML,zB]
 exact ⟨by rw [Kp]; exact h1,Nn h2⟩
theorem KT (hT:rtab md ops=T) (h:(Kq T.2 l.toList==[])=true):(Region.ready md ops l==[])=true:=by
 subst hT
 rw [Kp]
 exact h
def upM (B:List Nat) (d:Nat):List Nat→Nat
 |[]=>0
 |n::r=>(2^n|||(if n<d then B.getD n 0 else 0))|||upM B d r
def H5 (T:List (List Nat×List Nat)) (B:List Nat):Bool:=(List.range T.length).all fun d=>match T[d]? with
 |some r=>(B.getD d 0|||upM B d r.1)==upM B d r.1
 |none=>false
theorem OY {B:List Nat} {d i:Nat} :∀ {ns:List Nat},(upM B d ns).testBit i=true→∃n∈ns,n=i∨(n<d∧(B.getD n 0).testBit i=true)
  |[],h=>by simp [upM] at h
  | n ::r,h=>by
    unfold upM at h
    rw [Nat.testBit_or,Nat.testBit_or,Bool.or_eq_true,Bool.or_eq_true] at h
    rcases h with (h|h)|h
    · rw [Nat.testBit_two_pow] at h
      exact ⟨n,List.mem_cons_self,.inl (by simpa using h)⟩
    · by_cases hn:n<d
      · rw [if_pos hn] at h
        exact ⟨n,List.mem_cons_self,.inr ⟨hn,h⟩⟩
      · rw [if_neg hn] at h
        simp at h
    · obtain ⟨m,hm,h2⟩:=OY h
      exact ⟨m,List.mem_cons_of_mem _ hm,h2⟩
theorem Lo {T:List (List Nat×List Nat)} {B:List Nat} (hB:H5 T B=true):∀(fuel d:Nat),d<fuel→d<T.length→(B.getD d 0).testBit i=true→JW T i fuel d=true
 |0,d,h,_,_=>by omega
 | fuel+1,d,h,hd,hb=>by
  have h1:=List.all_eq_true.1 hB d (List.mem_range.2 hd)
  cases hr:T[d]? with
  |none=>rw [hr] at h1; simp at h1
  | some r=>
   rw [hr] at h1
   simp only [beq_iff_eq] at h1
   have h2:(upM B d r.1).testBit i=true:=by rw [←h1,Nat.testBit_or,hb,Bool.true_or]
   obtain ⟨n,hn,h3⟩:=OY h2
   unfold JW
   rw [hr]
   simp only
   rw [List.any_eq_true]
   refine ⟨n,hn,?_⟩
   rcases h3 with rfl|⟨h4,h5⟩
   ·simp
   ·rw [Lo hB fuel n (by omega) (by omega) h5,Bool.or_true]
def lastW (T:List (List Nat×List Nat)) (B:List Nat) (l:List Bool) (ds:List Nat) (i:Nat):Bool:=ds.all fun d=>l.getD d true||(decide (d<T.length)&&(B.getD d 0).testBit i)
def takeW (T:Bool×List (List Nat×List Nat)) (B:List Nat) (ds:List Nat) (l l':List Bool) (i:Nat):Bool:=T.1&&NQ T.2 l i&&GY T.2 l i&&KU T.2 l&&lastW T.2 B l ds i&&(l.set i true==l')
theorem Io {B:List Nat} (hT:rtab md ops=T) (hB:H5 T.2 B=true) (h:takeW T B ds l.toList l'.toList i=true):Mu md ops ds l l' i=true:=by
 refine take_of hT ?_
 simp only [takeW,QI,zB] at h ⊢
 obtain ⟨⟨⟨⟨⟨h1,h2⟩,h3⟩,h4⟩,h5⟩,h6⟩:=h
 refine ⟨⟨⟨⟨⟨h1,h2⟩,h3⟩,h4⟩,?_⟩,h6⟩
 unfold lastW at h5
 unfold PD
 rw [List.all_eq_true] at h5 ⊢
 intro d hd
 have h7:=h5 d hd
 rw [Bool.or_eq_true,zB,zD] at h7
 rcases h7 with h7|⟨h8,h9⟩
 ·rw [h7,Bool.true_or]
 ·rw [Lo hB _ d h8 h8 h9,Bool.or_true]
theorem Hu {P:Program} {Q:Exit→Act→World→Prop} {S:World→Prop} {n:Nat} {a:Act} {w:World} {B:List Nat} (hT:rtab md ops=T) (hB:H5 T.2 B=true) (h:Aside0 (rtab md ops=T)→Aside0 (H5 T.2 B=true)→EJ P md ops Q S ds n l a w):EJ P md ops Q S ds n l a w:=h ⟨hT⟩ ⟨hB⟩
end
def IP:Code→Nat→Option (Array Oper)
 | .region id ops _,k=>if id==k then some ops else none
 | .seq a b,k=>match IP a k with
  |some o=>some o
  |none=>IP b k
 | .cond _ a b,k=>match IP a k with
  |some o=>some o
  |none=>IP b k
 | .block _ c,k=>IP c k
 | .loop c,k=>IP c k
 | .scope c,k=>IP c k
 | .rangeFunc _ _ a b,k=>match IP a k with
  |some o=>some o
  |none=>IP b k
 |_,_=>none
def Qa (f:Func) (k:Nat):Array Oper:=((f.body.bind fun c=>IP c k)).getD #[]
end Go.Proofs.YtpejalpgficopaaGreatDoorW.PrintLast
end
section
namespace Go.Proofs.YtpejalpgficopaaGreatDoorW.PrintWords
open Go.RowKit
namespace Kd
def tag {α:Type} (f:Nat→Nat) (d:Kd α):Kd (α×Nat) where
 sz:=d.sz
 E:=d.E
 K:=fun w x cs=>d.K w x.1 cs
 M:=fun w base ok x cs=>d.M w base (fun k=>ok k∧f k=x.2) x.1 cs
 K_len:=fun h=>d.K_len h
 K_one:=fun h=>d.K_one h
 K_below:=fun hb h=>d.K_below hb h
 K_of_M:=fun h=>d.K_of_M h
 M_mono:=fun hok h=>d.M_mono (fun k hk=>⟨hok k hk.1,hk.2⟩) h
 M_bound:=fun h=>d.M_mono (fun _ hk=>⟨⟨hk.1.1,hk.2⟩,hk.1.2⟩) (d.M_bound h)
 M_move:=fun hm h=>d.M_move (fun k hk=>hm k hk.1) h
 M_lower:=fun hb h=>d.M_lower hb h
def raw (sz:Nat):Kd (List Value) where
 sz:=sz
 E:=[]
 K:=fun _ x cs=>cs=x∧cs.length=sz∧∀u∈cs,u.oneCell'=true
 M:=fun _ _ _ x cs=>cs=x∧cs.length=sz∧∀u∈cs,u.oneCell'=true
 K_len:=fun h=>h.2.1
 K_one:=fun h=>h.2.2
 K_below:=fun _ h=>h
 K_of_M:=fun h=>h
 M_mono:=fun _ h=>h
 M_bound:=fun h=>h
 M_move:=fun _ h=>h
 M_lower:=fun _ h=>h
def S {α:Type} (d:Kd α) (e:Nat) (w:World) (base:Nat) (ok:Nat→Prop) (v:Value) (xs:List α):Prop:=∃f,(tag f d).R e w base ok v xs.zipIdx
section
variable {α β:Type} {d:Kd α} {d':Kd β} {e e':Nat} {w w1 W:World} {base b:Nat} {ok ok' okv oku:Nat→Prop} {u v:Value} {xs:List α} {ys:List β}
end
section
variable {α β:Type} {d:Kd α} {d':Kd β} {e e' g:Nat} {w w1 W:World} {base b:Nat} {ok ok' okv oku:Nat→Prop} {u v:Value} {xs:List α} {ys:List β}
end
section
variable {P:Program} {ops:Array Oper} {rest:List Oper} {o:Oper} {a:Act} {Q:Exit→Act→World→Prop} {Kc:Act→World→Prop} {α:Type}
end
def gap {α:Type} (f:Nat→Nat) (d:Kd α) (i:Nat) (c:List Value):Kd (α×Nat) where
 sz:=d.sz
 E:=d.E
 K:=fun w x cs=>(x.2=i→cs=c∧cs.length=d.sz∧∀u∈cs,u.oneCell'=true)∧(x.2≠i→d.K w x.1 cs)
 M:=fun w base ok x cs=>(x.2=i→cs=c∧cs.length=d.sz∧∀u∈cs,u.oneCell'=true)∧(x.2≠i→d.M w base (fun k=>ok k∧f k=x.2) x.1 cs)
 K_len:=fun {w x cs} h=>by
  by_cases hx:x.2=i
  ·exact (h.1 hx).2.1
  ·exact d.K_len (h.2 hx)
 K_one:=fun {w x cs} h=>by
  by_cases hx:x.2=i
  ·exact (h.1 hx).2.2
  ·exact d.K_one (h.2 hx)
 K_below:=fun hb h=>⟨h.1,fun hx=>d.K_below hb (h.2 hx)⟩
 K_of_M:=fun h=>⟨h.1,fun hx=>d.K_of_M (h.2 hx)⟩
 M_mono:=fun hok h=>⟨h.1,fun hx=>d.M_mono (fun k hk=>⟨hok k hk.1,hk.2⟩) (h.2 hx)⟩
 M_bound:=fun h=>⟨h.1,fun hx=>d.M_mono (fun _ hk=>⟨⟨hk.1.1,hk.2⟩,hk.1.2⟩) (d.M_bound (h.2 hx))⟩
 M_move:=fun hm h=>⟨h.1,fun hx=>d.M_move (fun k hk=>hm k hk.1) (h.2 hx)⟩
 M_lower:=fun hb h=>⟨h.1,fun hx=>d.M_lower hb (h.2 hx)⟩
def H {α:Type} (d:Kd α) (e:Nat) (w:World) (base:Nat) (ok:Nat→Prop) (v:Value) (xs:List α) (i:Int) (oki:Nat→Prop) (c:List Value):Prop:=
 (∀k,oki k→ok k)∧∃f,(gap f d i.toNat c).R e w base (fun k=>ok k∧¬oki k) v xs.zipIdx
section
variable {α β:Type} {d:Kd α} {e e' g n cap:Nat} {w w1 W:World} {base:Nat} {ok ok' oki okp:Nat→Prop} {u v:Value} {xs:List α} {i:Int} {c:List Value}
end
section
variable {P:Program} {ops:Array Oper} {rest:List Oper} {o:Oper} {a:Act} {Q:Exit→Act→World→Prop} {α:Type}
end
end Kd
namespace Kd
structure Heap {α:Type} (d:Kd α):Prop where
 K:∀ {w w1:World} {x:α} {cs:List Value},(∀k,k<w.heap.size→w1.heap[k]? =w.heap[k]?)→d.K w x cs→d.K w1 x cs
section
variable {α:Type} {d:Kd α} {e base g n c:Nat} {ok:Nat→Prop} {w w0 W:World} {A:Option Addr} {xs:List α}
end
end Kd
def Kept (w W:World) (S:Nat→Prop):Prop:=w.heap.size≤W.heap.size∧∀i,i<w.heap.size→¬S i→W.heap[i]? =w.heap[i]?
section
variable {w W W2:World} {S S2 S':Nat→Prop}
theorem M8 {a:Addr} {v:Value} (hc:W.cell? a=some v) (hk:Kept W W2 S) (hne:¬S a.block):W2.cell? a=some v:=by
 have:=hk.2 a.block (World.block_lt_of_cell? W a hc) hne
 simpa [World.cell?,this] using hc
end
namespace Kd
section
variable {α:Type} {d:Kd α} {e base n c:Nat} {ok oki S S2:Nat→Prop} {w w0 W W1 W2:World} {v:Value} {A:Option Addr} {xs:List α} {i:Int} {cs:List Value}
end
end Kd
def Foot (P:World→Prop) (W:World) (ok:Nat→Prop):Prop:=∀W':World,(∀k,ok k→k<W.heap.size→W'.heap[k]? =W.heap[k]?)→P W'
theorem heap_lt {W W1:World} {k:Nat} (h:W1.heap[k]? =W.heap[k]?) (hlt:k<W.heap.size):k<W1.heap.size:=by
 rw [Array.getElem?_eq_getElem hlt] at h
 exact (Array.getElem?_eq_some_iff.1 h).1
namespace Foot
variable {P Q:World→Prop} {W W1:World} {ok ok':Nat→Prop}
theorem now (h:Foot P W ok):P W:=h W (fun _ _ _=>rfl)
theorem mono (h:Foot P W ok) (hok:∀k,ok k→ok' k):Foot P W ok':=fun W' hW=>h W' (fun k hk hlt=>hW k (hok k hk) hlt)
theorem bound (h:Foot P W ok):Foot P W (fun k=>ok k∧k<W.heap.size):=fun W' hW=>h W' (fun k hk hlt=>hW k ⟨hk,hlt⟩ hlt)
theorem step (h:Foot P W ok) (hm:∀k,ok k→k<W.heap.size→W1.heap[k]? =W.heap[k]?):Foot P W1 ok:=fun W' hW=>h W' (fun k hk hlt=>(hW k hk (heap_lt (hm k hk hlt) hlt)).trans (hm k hk hlt))
theorem imp (h:Foot P W ok) (hi:∀W',P W'→Q W'):Foot Q W ok:=fun W' hW=>hi W' (h W' hW)
theorem old (h:Foot P W ok) (hb:Below W.heap.size W W1):Foot P W1 (fun k=>ok k∧k<W.heap.size):=(h.bound).step (fun k _ hlt=>hb.block k hlt)
end Foot
namespace Kd
def F {α:Type} (d:Kd α) (W:World) (ok:Nat→Prop) (A:Option Addr) (n:Nat) (xs:List α):Prop:=Foot (fun W=>d.C W A n xs) W ok
def FK {α:Type} (d:Kd α) (W:World) (ok:Nat→Prop) (x:α) (c:List Value):Prop:=Foot (fun W=>d.K W x c) W ok
section
variable {α β:Type} {d:Kd α} {e base n n' cc g N:Nat} {ok ok' okp S:Nat→Prop} {w w0 w1 W W1:World} {A A':Option Addr} {u v v1:Value} {xs:List α} {xs':List β} {d':Kd β} {x:α} {c:List Value}
end
end Kd
namespace Kd
section
variable {α:Type} {d:Kd α} {e base n cc g:Nat} {ok ok' okp S:Nat→Prop} {w w1 W W1:World} {A:Option Addr} {u v v1:Value} {xs:List α} {x:α} {c:List Value}
def N {α:Type} (d:Kd α) (e:Nat) (w:World) (base:Nat) (ok:Nat→Prop) (v:Value) (xs:List α):Prop:=
 (∀k,v.ownBlock=some k→ok k)∧∃rows:List (List Value),rows.length=xs.length∧(raw d.sz).R e w base (fun k=>some k=v.ownBlock) v rows∧∀(j:Nat) (x:α) (c:List Value),xs[j]? =some x→rows[j]? =some c→FK d w (fun k=>ok k∧some k≠v.ownBlock) x c
end
end Kd
end Go.Proofs.YtpejalpgficopaaGreatDoorW.PrintWords
end
section
namespace Go.Proofs.YtpejalpgficopaaGreatDoorW.PrintWords
theorem Reps.one {α:Type} {R:α→List Value→Prop} {ps:List α} {cs:List Value} {p:α} {v:Value} (hp:R p [v]) (h:Reps R 1 ps cs):Reps R 1 (p::ps) (v::cs):=by
 refine ⟨by simp [h.1],fun j q hq=> ?_⟩
 cases j with
 | zero=>
  simp only [List.getElem?_cons_zero,zS] at hq
  subst hq
  simpa using hp
 | succ j=>
  simp only [List.getElem?_cons_succ] at hq
  have h1:=h.2 j q hq
  simpa [Nat.mul_one] using h1
end Go.Proofs.YtpejalpgficopaaGreatDoorW.PrintWords
end
section
namespace Go.Proofs.YtpejalpgficopaaGreatDoorW.PrintWords
open Go.RowKit
section
variable {P:Program} {ops:Array Oper} {rest:List Oper} {o:Oper} {a:Act} {Q:Exit→Act→World→Prop} {W:World}
theorem LE (hw:Region.wanted o (yielded ops a.tmps)=true) (h:wpList P ops Q ({o with guard:=none} ::rest) a W):wpList P ops Q (o::rest) a W:=by
 have h1:Region.wanted {o with guard:=none} (yielded ops a.tmps)=true:=rfl
 unfold wpList at h ⊢
 rw [if_pos h1] at h
 rw [if_pos hw]
 exact h
end
end Go.Proofs.YtpejalpgficopaaGreatDoorW.PrintWords
end
section
namespace Go.Proofs.YtpejalpgficopaaGreatDoorW.PrintMore
open Go.RowKit Go.Proofs.YtpejalpgficopaaGreatDoorW.PrintWords
namespace Kd
open Go.Proofs.YtpejalpgficopaaGreatDoorW.PrintWords.Kd
end Kd
namespace Kd
open Go.Proofs.YtpejalpgficopaaGreatDoorW.PrintWords.Kd
section
variable {α:Type} {d:Kd α} {e base g N:Nat} {ok:Nat→Prop} {W w1:World} {u v:Value} {xs:List α}
end
end Kd
theorem J9 (k k':IntKind) (x y:Int):Builtin.max2 (.int k x) (.int k' y)=pure (.int k (if x<y then y else x)):=by simp only [Builtin.max2,gt_iff_lt]
theorem J7 (k k':IntKind) (x y:Int):Builtin.min2 (.int k x) (.int k' y)=pure (.int k (if y<x then y else x)):=by simp only [Builtin.min2]
theorem KM (ats:Array TypeId) (ty:TypeId) (a b:Value):Builtin.max_ ats ty #[a,b]=(Builtin.max2 a b>>=fun s=>pure s):=by simp only [Builtin.max_,List.foldlM_cons,List.foldlM_nil]
theorem KL (ats:Array TypeId) (ty:TypeId) (a b:Value):Builtin.min_ ats ty #[a,b]=(Builtin.min2 a b>>=fun s=>pure s):=by simp only [Builtin.min_,List.foldlM_cons,List.foldlM_nil]
theorem IA (ats:Array TypeId) (ty:TypeId) (a b c:Value):Builtin.max_ ats ty #[a,b,c]=(Builtin.max2 a b>>=fun s=>Builtin.max2 s c>>=fun s=>pure s):=by simp only [Builtin.max_,List.foldlM_cons,List.foldlM_nil]
theorem I8 (ats:Array TypeId) (ty:TypeId) (a b c:Value):Builtin.min_ ats ty #[a,b,c]=(Builtin.min2 a b>>=fun s=>Builtin.min2 s c>>=fun s=>pure s):=by simp only [Builtin.min_,List.foldlM_cons,List.foldlM_nil]
theorem J8 (ats:Array TypeId) (ty:TypeId) (a b c d:Value):Builtin.max_ ats ty #[a,b,c,d]=(Builtin.max2 a b>>=fun s=>Builtin.max2 s c>>=fun s=>Builtin.max2 s d>>=fun s=>pure s):=by simp only [Builtin.max_,List.foldlM_cons,List.foldlM_nil]
theorem J6 (ats:Array TypeId) (ty:TypeId) (a b c d:Value):Builtin.min_ ats ty #[a,b,c,d]=(Builtin.min2 a b>>=fun s=>Builtin.min2 s c>>=fun s=>Builtin.min2 s d>>=fun s=>pure s):=by simp only [Builtin.min_,List.foldlM_cons,List.foldlM_nil]
end Go.Proofs.YtpejalpgficopaaGreatDoorW.PrintMore
namespace Go.Proofs.YtpejalpgficopaaGreatDoorW.PrintWords
open Go.RowKit
section
variable {P:Program} {ops:Array Oper} {rest:List Oper} {o:Oper} {a:Act} {Q:Exit→Act→World→Prop} {W:World}
theorem E7 {f:FuncId} {azz:Array Operand} {ts:Array TypeId} (_ho:o.op= .call {callee:= .value (.func f),args:=azz,argTypes:=ts}) (h:wpList P ops Q (o::rest) a W):wpList P ops Q (o::rest) a W:=h
end
def mx (a b:Int):Int:=if a<b then b else a
def mn (a b:Int):Int:=if b<a then b else a
def shl (k:IntKind) (x y:Int):Int:=k.wrap (x*2^min y.toNat k.bits)
def shr (k:IntKind) (x y:Int):Int:=x/2^min y.toNat k.bits
namespace Kd
section
variable {α:Type} {d:Kd α} {e base:Nat} {ok:Nat→Prop} {W w1:World} {v:Value} {xs:List α}
end
section
variable {α:Type} {d:Kd α} {e base g n cap:Nat} {ok oki okp:Nat→Prop} {W:World} {xs:List α} {i:Int} {c:List Value}
end
section
variable {α:Type} {d:Kd α} {e base b b' g N:Nat} {ok ok1:Nat→Prop} {W W2 w1:World} {u v:Value} {xs ys:List α} {S:Nat→Prop}
end
end Kd
end Go.Proofs.YtpejalpgficopaaGreatDoorW.PrintWords
namespace Go.Proofs.YtpejalpgficopaaGreatDoorW.PrintWords
open Go.RowKit
namespace Kd
def V {α:Type} (d:Kd α) (_e:Nat) (W:World) (_base:Nat) (ok:Nat→Prop) (v:Value) (xs:List α):Prop:=∃A c,v= .slice A xs.length c∧xs.length≤c∧F d W ok A xs.length xs
section
variable {α β:Type} {d:Kd α} {e base base' n m c g N' lo hi:Nat} {ok ok' S:Nat→Prop} {w W w1:World} {A:Option Addr} {ad:Addr} {u v v1:Value} {xs:List α}
end
end Kd
end Go.Proofs.YtpejalpgficopaaGreatDoorW.PrintWords
end
section
namespace Go.Proofs.YtpejalpgficopaaGreatDoor.PPr
open Go.RowKit Go.Proofs.YtpejalpgficopaaGreatDoorW.PrintWords Go.Proofs.YtpejalpgficopaaGreatDoorW.PrintLast Go.Proofs.YtpejalpgficopaaGreatDoorW.PrintMore
attribute [local go_sem] J9 J7 KM KL IA I8 J8 J6
def errW:Option Int→Value
 |none=> .nilIface
 |some c=> .iface 0 (.int .i64 c)
theorem Dk:errW none= .nilIface:=rfl
theorem Dj (c:Int):errW (some c)= .iface 0 (.int .i64 c):=rfl
attribute [local go_sem] J9 J7 KM KL IA I8 J8 J6
def Ah.f (A7:Int) (AA:Int):Option (Bool):=if A7≤AA then (if A7≥(-1073741824) then (some (decide (AA≤1073741824))) else (some false)) else (some false)
set_option maxHeartbeats 8000000 in
theorem Ah.calls (A7:Int) (AA:Int) (r:Bool) (w:World) (h:Ah.f A7 AA=some r):
  Calls Tryz.prog 65 #[.agg #[.int .i64 A7,.int .i64 AA]] w fun e w'=>e= .returned (.bool r)∧Below w.heap.size w w':=by
 have hu39:=Tryz.underlying39
 have HB:=Aside0.mk (Below.refl w.heap.size w)
 have H:(if A7≤AA then (if A7≥(-1073741824) then (some (decide (AA≤1073741824))) else (some false)) else (some false))=some r:=h
 clear h
 by_cases c2:A7≤AA
 ·rw [if_pos c2] at H
  have c2b0:decide (A7≤AA)=true:=decide_eq_true c2
  clear c2
  by_cases c3:A7≥(-1073741824)
  ·rw [if_pos c3] at H
   have c3b0:decide ((-1073741824)≤A7)=true:=decide_eq_true c3
   clear c3
   obtain rfl:=Option.some.inj H
   go_enter Tryz.func65,Tryz.ntmps65
   go_wp2_with (first|((with_reducible refine Ed (N:=1) rfl ?_); refine Ea ?hg (N:=1) ?hd (cs:= #[.int .i64 A7,.int .i64 AA]) (t:=39) ?hr ?_; (case hd=>rfl); (case hg=>rfl); (case hr=>first|(go_simp; done)|(go_simp; rfl)); intro gb101 hg w4 hbox hb; have n0_:=Aside0.mk (Ce (by repeat (first|(with_reducible first|exact HB.out|apply Af|apply Ab|apply Ae)|exact HB.out)) hb); have n1_:=Aside0.mk (hbox); have n2_:=Aside0.mk ((by rw [hg]; exact (Do (by repeat (first|(with_reducible first|exact HB.out|apply Af|apply Ab|apply Ae)|exact HB.out))):w.heap.size≤gb101)); have n3_:=Aside0.mk ((by rw [hg]; exact (Do (by repeat (first|(with_reducible first|exact HB.out|apply Af|apply Ab|apply Ae)|exact HB.out))):w.heap.size≤gb101)); clear HB; have HB:=n0_; have BK101:=n1_; have GW101:=n2_; have GE101:=n3_; clear n0_ n1_ n2_ n3_; clear hb hbox hg; have hcz5_0:w4.cell? ⟨gb101,0,none⟩=some (.int .i64 A7):=(Ak BK101.out 0).trans rfl; have hcz5_1:w4.cell? ⟨gb101,1,none⟩=some (.int .i64 AA):=(Ak BK101.out 1).trans rfl; have hfz5_0:=Ai BK101.out 0; have hfz5_1:=Ai BK101.out 1))
   go_ret
   exact ⟨by first|rfl|(simp [Dk,Dj]<;>rfl)|(simp [*,Dk,Dj]<;>rfl),by repeat (first|(with_reducible first|exact HB.out|apply Af|apply Ab|apply Ae|refine Dc ?_ GE101.out)|exact HB.out)⟩
  ·rw [if_neg c3] at H
   have c3b0:decide ((-1073741824)≤A7)=false:=decide_eq_false c3
   clear c3
   obtain rfl:=Option.some.inj H
   go_enter Tryz.func65,Tryz.ntmps65
   go_wp2_with (first|((with_reducible refine Ed (N:=1) rfl ?_); refine Ea ?hg (N:=1) ?hd (cs:= #[.int .i64 A7,.int .i64 AA]) (t:=39) ?hr ?_; (case hd=>rfl); (case hg=>rfl); (case hr=>first|(go_simp; done)|(go_simp; rfl)); intro gb101 hg w6 hbox hb; have n0_:=Aside0.mk (Ce (by repeat (first|(with_reducible first|exact HB.out|apply Af|apply Ab|apply Ae)|exact HB.out)) hb); have n1_:=Aside0.mk (hbox); have n2_:=Aside0.mk ((by rw [hg]; exact (Do (by repeat (first|(with_reducible first|exact HB.out|apply Af|apply Ab|apply Ae)|exact HB.out))):w.heap.size≤gb101)); have n3_:=Aside0.mk ((by rw [hg]; exact (Do (by repeat (first|(with_reducible first|exact HB.out|apply Af|apply Ab|apply Ae)|exact HB.out))):w.heap.size≤gb101)); clear HB; have HB:=n0_; have BK101:=n1_; have GW101:=n2_; have GE101:=n3_; clear n0_ n1_ n2_ n3_; clear hb hbox hg; have hcz7_0:w6.cell? ⟨gb101,0,none⟩=some (.int .i64 A7):=(Ak BK101.out 0).trans rfl; have hcz7_1:w6.cell? ⟨gb101,1,none⟩=some (.int .i64 AA):=(Ak BK101.out 1).trans rfl; have hfz7_0:=Ai BK101.out 0; have hfz7_1:=Ai BK101.out 1))
   go_ret
   exact ⟨by first|rfl|(simp [Dk,Dj]<;>rfl)|(simp [*,Dk,Dj]<;>rfl),by repeat (first|(with_reducible first|exact HB.out|apply Af|apply Ab|apply Ae|refine Dc ?_ GE101.out)|exact HB.out)⟩
 ·rw [if_neg c2] at H
  have c2b0:decide (A7≤AA)=false:=decide_eq_false c2
  clear c2
  obtain rfl:=Option.some.inj H
  go_enter Tryz.func65,Tryz.ntmps65
  go_wp2_with (first|((with_reducible refine Ed (N:=1) rfl ?_); refine Ea ?hg (N:=1) ?hd (cs:= #[.int .i64 A7,.int .i64 AA]) (t:=39) ?hr ?_; (case hd=>rfl); (case hg=>rfl); (case hr=>first|(go_simp; done)|(go_simp; rfl)); intro gb101 hg w8 hbox hb; have n0_:=Aside0.mk (Ce (by repeat (first|(with_reducible first|exact HB.out|apply Af|apply Ab|apply Ae)|exact HB.out)) hb); have n1_:=Aside0.mk (hbox); have n2_:=Aside0.mk ((by rw [hg]; exact (Do (by repeat (first|(with_reducible first|exact HB.out|apply Af|apply Ab|apply Ae)|exact HB.out))):w.heap.size≤gb101)); have n3_:=Aside0.mk ((by rw [hg]; exact (Do (by repeat (first|(with_reducible first|exact HB.out|apply Af|apply Ab|apply Ae)|exact HB.out))):w.heap.size≤gb101)); clear HB; have HB:=n0_; have BK101:=n1_; have GW101:=n2_; have GE101:=n3_; clear n0_ n1_ n2_ n3_; clear hb hbox hg; have hcz9_0:w8.cell? ⟨gb101,0,none⟩=some (.int .i64 A7):=(Ak BK101.out 0).trans rfl; have hcz9_1:w8.cell? ⟨gb101,1,none⟩=some (.int .i64 AA):=(Ak BK101.out 1).trans rfl; have hfz9_0:=Ai BK101.out 0; have hfz9_1:=Ai BK101.out 1))
  go_ret
  exact ⟨by first|rfl|(simp [Dk,Dj]<;>rfl)|(simp [*,Dk,Dj]<;>rfl),by repeat (first|(with_reducible first|exact HB.out|apply Af|apply Ab|apply Ae|refine Dc ?_ GE101.out)|exact HB.out)⟩
def Bo.f (A7:Int) (AA:Int) (AG:Int) (AF:Int) (AE:Int) (AD:Int):Option (Bool):=(Ah.f A7 AA).bind fun t103=>(if t103=true then ((Ah.f AG AF).bind fun t104=>(if t104=true then ((Ah.f AE AD).bind fun t105=>(some t105)) else (some false))) else (some false))
set_option maxHeartbeats 8000000 in
theorem Bo.calls (A7:Int) (AA:Int) (AG:Int) (AF:Int) (AE:Int) (AD:Int) (r:Bool) (w:World) (h:Bo.f A7 AA AG AF AE AD=some r):
  Calls Tryz.prog 49 #[.agg #[.int .i64 A7,.int .i64 AA,.int .i64 AG,.int .i64 AF,.int .i64 AE,.int .i64 AD]] w fun e w'=>e= .returned (.bool r)∧Below w.heap.size w w':=by
 have hu41:=Tryz.underlying41
 have hu39:=Tryz.underlying39
 have HB:=Aside0.mk (Below.refl w.heap.size w)
 have H:((Ah.f A7 AA).bind fun t103=>(if t103=true then ((Ah.f AG AF).bind fun t104=>(if t104=true then ((Ah.f AE AD).bind fun t105=>(some t105)) else (some false))) else (some false)))=some r:=h
 clear h
 replace H:=Option.bind_eq_some_iff.mp H
 obtain ⟨t103,A20,H⟩:=H
 replace H:(if t103=true then ((Ah.f AG AF).bind fun t104=>(if t104=true then ((Ah.f AE AD).bind fun t105=>(some t105)) else (some false))) else (some false))=some r:=H
 have A2:=Aside0.mk A20
 clear A20
 by_cases c3:t103=true
 ·subst c3
  have H1:((Ah.f AG AF).bind fun t104=>(if t104=true then ((Ah.f AE AD).bind fun t105=>(some t105)) else (some false)))=some r:=by rw [if_pos rfl] at H; exact H
  clear H
  have H:=H1
  clear H1
  replace H:=Option.bind_eq_some_iff.mp H
  obtain ⟨t104,A40,H⟩:=H
  replace H:(if t104=true then ((Ah.f AE AD).bind fun t105=>(some t105)) else (some false))=some r:=H
  have A4:=Aside0.mk A40
  clear A40
  by_cases c5:t104=true
  ·subst c5
   have H1:((Ah.f AE AD).bind fun t105=>(some t105))=some r:=by rw [if_pos rfl] at H; exact H
   clear H
   have H:=H1
   clear H1
   replace H:=Option.bind_eq_some_iff.mp H
   obtain ⟨t105,A60,H⟩:=H
   replace H:(some t105)=some r:=H
   have A6:=Aside0.mk A60
   clear A60
   obtain rfl:=Option.some.inj H
   go_enter Tryz.func49,Tryz.ntmps49
   go_wp2_with (first|((with_reducible refine Ed (N:=1) rfl ?_); refine Ea ?hg (N:=1) ?hd (cs:= #[.int .i64 A7,.int .i64 AA,.int .i64 AG,.int .i64 AF,.int .i64 AE,.int .i64 AD]) (t:=41) ?hr ?_; (case hd=>rfl); (case hg=>rfl); (case hr=>first|(go_simp; done)|(go_simp; rfl)); intro gb102 hg w7 hbox hb; have n0_:=Aside0.mk (Ce (by repeat (first|(with_reducible first|exact HB.out|apply Af|apply Ab|apply Ae)|exact HB.out)) hb); have n1_:=Aside0.mk (hbox); have n2_:=Aside0.mk ((by rw [hg]; exact (Do (by repeat (first|(with_reducible first|exact HB.out|apply Af|apply Ab|apply Ae)|exact HB.out))):w.heap.size≤gb102)); have n3_:=Aside0.mk ((by rw [hg]; exact (Do (by repeat (first|(with_reducible first|exact HB.out|apply Af|apply Ab|apply Ae)|exact HB.out))):w.heap.size≤gb102)); clear HB; have HB:=n0_; have BK102:=n1_; have GW102:=n2_; have GE102:=n3_; clear n0_ n1_ n2_ n3_; clear hb hbox hg; have hcz8_0:w7.cell? ⟨gb102,0,none⟩=some (.int .i64 A7):=(Ak BK102.out 0).trans rfl; have hcz8_1:w7.cell? ⟨gb102,1,none⟩=some (.int .i64 AA):=(Ak BK102.out 1).trans rfl; have hcz8_2:w7.cell? ⟨gb102,2,none⟩=some (.int .i64 AG):=(Ak BK102.out 2).trans rfl; have hcz8_3:w7.cell? ⟨gb102,3,none⟩=some (.int .i64 AF):=(Ak BK102.out 3).trans rfl; have hcz8_4:w7.cell? ⟨gb102,4,none⟩=some (.int .i64 AE):=(Ak BK102.out 4).trans rfl; have hcz8_5:w7.cell? ⟨gb102,5,none⟩=some (.int .i64 AD):=(Ak BK102.out 5).trans rfl; have hfz8_0:=Ai BK102.out 0; have hfz8_1:=Ai BK102.out 1; have hfz8_2:=Ai BK102.out 2; have hfz8_3:=Ai BK102.out 3; have hfz8_4:=Ai BK102.out 4; have hfz8_5:=Ai BK102.out 5)|((with_reducible refine E7 (f:=65) rfl ?_); refine Ex (some 5) rfl rfl Tryz.func65 (by kernel_rfl) rfl #[.agg #[.int .i64 A7,.int .i64 AA]] rfl (by (try simp only [List.map_toArray,List.map_cons,List.map_nil]); first|done|rfl|(simp only [List.length_drop,List.length_take]; rfl)) ?_; (with_reducible refine (Ah.calls A7 AA true _ A2.out).mono ?_); rintro e w9 ⟨rfl,hb⟩; refine ⟨_,rfl,?_⟩; have n0_:=Aside0.mk (ED (g:=gb102) (o:= .cells #[.int .i64 A7,.int .i64 AA,.int .i64 AG,.int .i64 AF,.int .i64 AE,.int .i64 AD] 41 (0,0)) (by (with_reducible repeat (first|refine EC ?_ _|refine EI ?_|refine EE ?_ _)); exact BK102.out) hb); have n1_:=Aside0.mk (Ce (by repeat (first|(with_reducible first|exact HB.out|apply Af|apply Ab|apply Ae|refine Dc ?_ GE102.out)|exact HB.out)) hb); clear BK102; clear HB; have BK102:=n0_; have HB:=n1_; clear n0_ n1_; (try clear hb); (try clear hb2); (try clear hk); (try clear hi); have hcz10_0:w9.cell? ⟨gb102,0,none⟩=some (.int .i64 A7):=(Ak BK102.out 0).trans rfl; have hcz10_1:w9.cell? ⟨gb102,1,none⟩=some (.int .i64 AA):=(Ak BK102.out 1).trans rfl; have hcz10_2:w9.cell? ⟨gb102,2,none⟩=some (.int .i64 AG):=(Ak BK102.out 2).trans rfl; have hcz10_3:w9.cell? ⟨gb102,3,none⟩=some (.int .i64 AF):=(Ak BK102.out 3).trans rfl; have hcz10_4:w9.cell? ⟨gb102,4,none⟩=some (.int .i64 AE):=(Ak BK102.out 4).trans rfl; have hcz10_5:w9.cell? ⟨gb102,5,none⟩=some (.int .i64 AD):=(Ak BK102.out 5).trans rfl; have hfz10_0:=Ai BK102.out 0; have hfz10_1:=Ai BK102.out 1; have hfz10_2:=Ai BK102.out 2; have hfz10_3:=Ai BK102.out 3; have hfz10_4:=Ai BK102.out 4; have hfz10_5:=Ai BK102.out 5)|(go_at_call 65; (with_reducible refine (Ah.calls AG AF true _ A4.out).mono ?_); rintro e w11 ⟨rfl,hb⟩; have n0_:=Aside0.mk (ED (g:=gb102) (o:= .cells #[.int .i64 A7,.int .i64 AA,.int .i64 AG,.int .i64 AF,.int .i64 AE,.int .i64 AD] 41 (0,0)) (by (with_reducible repeat (first|refine EC ?_ _|refine EI ?_|refine EE ?_ _)); exact BK102.out) hb); have n1_:=Aside0.mk (Ce (by repeat (first|(with_reducible first|exact HB.out|apply Af|apply Ab|apply Ae|refine Dc ?_ GE102.out)|exact HB.out)) hb); clear BK102; clear HB; have BK102:=n0_; have HB:=n1_; clear n0_ n1_; (try clear hb); (try clear hb2); (try clear hk); (try clear hi); have hcz12_0:w11.cell? ⟨gb102,0,none⟩=some (.int .i64 A7):=(Ak BK102.out 0).trans rfl; have hcz12_1:w11.cell? ⟨gb102,1,none⟩=some (.int .i64 AA):=(Ak BK102.out 1).trans rfl; have hcz12_2:w11.cell? ⟨gb102,2,none⟩=some (.int .i64 AG):=(Ak BK102.out 2).trans rfl; have hcz12_3:w11.cell? ⟨gb102,3,none⟩=some (.int .i64 AF):=(Ak BK102.out 3).trans rfl; have hcz12_4:w11.cell? ⟨gb102,4,none⟩=some (.int .i64 AE):=(Ak BK102.out 4).trans rfl; have hcz12_5:w11.cell? ⟨gb102,5,none⟩=some (.int .i64 AD):=(Ak BK102.out 5).trans rfl; have hfz12_0:=Ai BK102.out 0; have hfz12_1:=Ai BK102.out 1; have hfz12_2:=Ai BK102.out 2; have hfz12_3:=Ai BK102.out 3; have hfz12_4:=Ai BK102.out 4; have hfz12_5:=Ai BK102.out 5)|(go_at_call 65; (with_reducible refine (Ah.calls AE AD t105 _ A6.out).mono ?_); rintro e w13 ⟨rfl,hb⟩; have n0_:=Aside0.mk (ED (g:=gb102) (o:= .cells #[.int .i64 A7,.int .i64 AA,.int .i64 AG,.int .i64 AF,.int .i64 AE,.int .i64 AD] 41 (0,0)) (by (with_reducible repeat (first|refine EC ?_ _|refine EI ?_|refine EE ?_ _)); exact BK102.out) hb); have n1_:=Aside0.mk (Ce (by repeat (first|(with_reducible first|exact HB.out|apply Af|apply Ab|apply Ae|refine Dc ?_ GE102.out)|exact HB.out)) hb); clear BK102; clear HB; have BK102:=n0_; have HB:=n1_; clear n0_ n1_; (try clear hb); (try clear hb2); (try clear hk); (try clear hi)))
   go_ret
   exact ⟨by first|rfl|(simp [Dk,Dj]<;>rfl)|(simp [*,Dk,Dj]<;>rfl),by repeat (first|(with_reducible first|exact HB.out|apply Af|apply Ab|apply Ae|refine Dc ?_ GE102.out)|exact HB.out)⟩
  ·replace c5:=Bool.eq_false_iff.mpr c5
   subst c5
   have H1:(some false)=some r:=by rw [if_neg (show ¬(false=true) by decide)] at H; exact H
   clear H
   have H:=H1
   clear H1
   obtain rfl:=Option.some.inj H
   go_enter Tryz.func49,Tryz.ntmps49
   go_wp2_with (first|((with_reducible refine Ed (N:=1) rfl ?_); refine Ea ?hg (N:=1) ?hd (cs:= #[.int .i64 A7,.int .i64 AA,.int .i64 AG,.int .i64 AF,.int .i64 AE,.int .i64 AD]) (t:=41) ?hr ?_; (case hd=>rfl); (case hg=>rfl); (case hr=>first|(go_simp; done)|(go_simp; rfl)); intro gb102 hg w14 hbox hb; have n0_:=Aside0.mk (Ce (by repeat (first|(with_reducible first|exact HB.out|apply Af|apply Ab|apply Ae)|exact HB.out)) hb); have n1_:=Aside0.mk (hbox); have n2_:=Aside0.mk ((by rw [hg]; exact (Do (by repeat (first|(with_reducible first|exact HB.out|apply Af|apply Ab|apply Ae)|exact HB.out))):w.heap.size≤gb102)); have n3_:=Aside0.mk ((by rw [hg]; exact (Do (by repeat (first|(with_reducible first|exact HB.out|apply Af|apply Ab|apply Ae)|exact HB.out))):w.heap.size≤gb102)); clear HB; have HB:=n0_; have BK102:=n1_; have GW102:=n2_; have GE102:=n3_; clear n0_ n1_ n2_ n3_; clear hb hbox hg; have hcz15_0:w14.cell? ⟨gb102,0,none⟩=some (.int .i64 A7):=(Ak BK102.out 0).trans rfl; have hcz15_1:w14.cell? ⟨gb102,1,none⟩=some (.int .i64 AA):=(Ak BK102.out 1).trans rfl; have hcz15_2:w14.cell? ⟨gb102,2,none⟩=some (.int .i64 AG):=(Ak BK102.out 2).trans rfl; have hcz15_3:w14.cell? ⟨gb102,3,none⟩=some (.int .i64 AF):=(Ak BK102.out 3).trans rfl; have hcz15_4:w14.cell? ⟨gb102,4,none⟩=some (.int .i64 AE):=(Ak BK102.out 4).trans rfl; have hcz15_5:w14.cell? ⟨gb102,5,none⟩=some (.int .i64 AD):=(Ak BK102.out 5).trans rfl; have hfz15_0:=Ai BK102.out 0; have hfz15_1:=Ai BK102.out 1; have hfz15_2:=Ai BK102.out 2; have hfz15_3:=Ai BK102.out 3; have hfz15_4:=Ai BK102.out 4; have hfz15_5:=Ai BK102.out 5)|((with_reducible refine E7 (f:=65) rfl ?_); refine Ex (some 5) rfl rfl Tryz.func65 (by kernel_rfl) rfl #[.agg #[.int .i64 A7,.int .i64 AA]] rfl (by (try simp only [List.map_toArray,List.map_cons,List.map_nil]); first|done|rfl|(simp only [List.length_drop,List.length_take]; rfl)) ?_; (with_reducible refine (Ah.calls A7 AA true _ A2.out).mono ?_); rintro e w16 ⟨rfl,hb⟩; refine ⟨_,rfl,?_⟩; have n0_:=Aside0.mk (ED (g:=gb102) (o:= .cells #[.int .i64 A7,.int .i64 AA,.int .i64 AG,.int .i64 AF,.int .i64 AE,.int .i64 AD] 41 (0,0)) (by (with_reducible repeat (first|refine EC ?_ _|refine EI ?_|refine EE ?_ _)); exact BK102.out) hb); have n1_:=Aside0.mk (Ce (by repeat (first|(with_reducible first|exact HB.out|apply Af|apply Ab|apply Ae|refine Dc ?_ GE102.out)|exact HB.out)) hb); clear BK102; clear HB; have BK102:=n0_; have HB:=n1_; clear n0_ n1_; (try clear hb); (try clear hb2); (try clear hk); (try clear hi); have hcz17_0:w16.cell? ⟨gb102,0,none⟩=some (.int .i64 A7):=(Ak BK102.out 0).trans rfl; have hcz17_1:w16.cell? ⟨gb102,1,none⟩=some (.int .i64 AA):=(Ak BK102.out 1).trans rfl; have hcz17_2:w16.cell? ⟨gb102,2,none⟩=some (.int .i64 AG):=(Ak BK102.out 2).trans rfl; have hcz17_3:w16.cell? ⟨gb102,3,none⟩=some (.int .i64 AF):=(Ak BK102.out 3).trans rfl; have hcz17_4:w16.cell? ⟨gb102,4,none⟩=some (.int .i64 AE):=(Ak BK102.out 4).trans rfl; have hcz17_5:w16.cell? ⟨gb102,5,none⟩=some (.int .i64 AD):=(Ak BK102.out 5).trans rfl; have hfz17_0:=Ai BK102.out 0; have hfz17_1:=Ai BK102.out 1; have hfz17_2:=Ai BK102.out 2; have hfz17_3:=Ai BK102.out 3; have hfz17_4:=Ai BK102.out 4; have hfz17_5:=Ai BK102.out 5)|(go_at_call 65; (with_reducible refine (Ah.calls AG AF false _ A4.out).mono ?_); rintro e w18 ⟨rfl,hb⟩; have n0_:=Aside0.mk (ED (g:=gb102) (o:= .cells #[.int .i64 A7,.int .i64 AA,.int .i64 AG,.int .i64 AF,.int .i64 AE,.int .i64 AD] 41 (0,0)) (by (with_reducible repeat (first|refine EC ?_ _|refine EI ?_|refine EE ?_ _)); exact BK102.out) hb); have n1_:=Aside0.mk (Ce (by repeat (first|(with_reducible first|exact HB.out|apply Af|apply Ab|apply Ae|refine Dc ?_ GE102.out)|exact HB.out)) hb); clear BK102; clear HB; have BK102:=n0_; have HB:=n1_; clear n0_ n1_; (try clear hb); (try clear hb2); (try clear hk); (try clear hi)))
   go_ret
   exact ⟨by first|rfl|(simp [Dk,Dj]<;>rfl)|(simp [*,Dk,Dj]<;>rfl),by repeat (first|(with_reducible first|exact HB.out|apply Af|apply Ab|apply Ae|refine Dc ?_ GE102.out)|exact HB.out)⟩
 ·replace c3:=Bool.eq_false_iff.mpr c3
  subst c3
  have H1:(some false)=some r:=by rw [if_neg (show ¬(false=true) by decide)] at H; exact H
  clear H
  have H:=H1
  clear H1
  obtain rfl:=Option.some.inj H
  go_enter Tryz.func49,Tryz.ntmps49
  go_wp2_with (first|((with_reducible refine Ed (N:=1) rfl ?_); refine Ea ?hg (N:=1) ?hd (cs:= #[.int .i64 A7,.int .i64 AA,.int .i64 AG,.int .i64 AF,.int .i64 AE,.int .i64 AD]) (t:=41) ?hr ?_; (case hd=>rfl); (case hg=>rfl); (case hr=>first|(go_simp; done)|(go_simp; rfl)); intro gb102 hg w19 hbox hb; have n0_:=Aside0.mk (Ce (by repeat (first|(with_reducible first|exact HB.out|apply Af|apply Ab|apply Ae)|exact HB.out)) hb); have n1_:=Aside0.mk (hbox); have n2_:=Aside0.mk ((by rw [hg]; exact (Do (by repeat (first|(with_reducible first|exact HB.out|apply Af|apply Ab|apply Ae)|exact HB.out))):w.heap.size≤gb102)); have n3_:=Aside0.mk ((by rw [hg]; exact (Do (by repeat (first|(with_reducible first|exact HB.out|apply Af|apply Ab|apply Ae)|exact HB.out))):w.heap.size≤gb102)); clear HB; have HB:=n0_; have BK102:=n1_; have GW102:=n2_; have GE102:=n3_; clear n0_ n1_ n2_ n3_; clear hb hbox hg; have hcz20_0:w19.cell? ⟨gb102,0,none⟩=some (.int .i64 A7):=(Ak BK102.out 0).trans rfl; have hcz20_1:w19.cell? ⟨gb102,1,none⟩=some (.int .i64 AA):=(Ak BK102.out 1).trans rfl; have hcz20_2:w19.cell? ⟨gb102,2,none⟩=some (.int .i64 AG):=(Ak BK102.out 2).trans rfl; have hcz20_3:w19.cell? ⟨gb102,3,none⟩=some (.int .i64 AF):=(Ak BK102.out 3).trans rfl; have hcz20_4:w19.cell? ⟨gb102,4,none⟩=some (.int .i64 AE):=(Ak BK102.out 4).trans rfl; have hcz20_5:w19.cell? ⟨gb102,5,none⟩=some (.int .i64 AD):=(Ak BK102.out 5).trans rfl; have hfz20_0:=Ai BK102.out 0; have hfz20_1:=Ai BK102.out 1; have hfz20_2:=Ai BK102.out 2; have hfz20_3:=Ai BK102.out 3; have hfz20_4:=Ai BK102.out 4; have hfz20_5:=Ai BK102.out 5)|((with_reducible refine E7 (f:=65) rfl ?_); refine Ex (some 5) rfl rfl Tryz.func65 (by kernel_rfl) rfl #[.agg #[.int .i64 A7,.int .i64 AA]] rfl (by (try simp only [List.map_toArray,List.map_cons,List.map_nil]); first|done|rfl|(simp only [List.length_drop,List.length_take]; rfl)) ?_; (with_reducible refine (Ah.calls A7 AA false _ A2.out).mono ?_); rintro e w21 ⟨rfl,hb⟩; refine ⟨_,rfl,?_⟩; have n0_:=Aside0.mk (ED (g:=gb102) (o:= .cells #[.int .i64 A7,.int .i64 AA,.int .i64 AG,.int .i64 AF,.int .i64 AE,.int .i64 AD] 41 (0,0)) (by (with_reducible repeat (first|refine EC ?_ _|refine EI ?_|refine EE ?_ _)); exact BK102.out) hb); have n1_:=Aside0.mk (Ce (by repeat (first|(with_reducible first|exact HB.out|apply Af|apply Ab|apply Ae|refine Dc ?_ GE102.out)|exact HB.out)) hb); clear BK102; clear HB; have BK102:=n0_; have HB:=n1_; clear n0_ n1_; (try clear hb); (try clear hb2); (try clear hk); (try clear hi)))
  go_ret
  exact ⟨by first|rfl|(simp [Dk,Dj]<;>rfl)|(simp [*,Dk,Dj]<;>rfl),by repeat (first|(with_reducible first|exact HB.out|apply Af|apply Ab|apply Ae|refine Dc ?_ GE102.out)|exact HB.out)⟩
def As.f (a0:Int) (a1:Int):Option (Int):=if a1=0 then (none) else (if (Int.tmod a0 a1)=0 then (some (wrap64 (Int.tdiv a0 a1))) else (if a0<0 then (some (wrap64 ((wrap64 (Int.tdiv a0 a1))-1))) else (some (wrap64 (Int.tdiv a0 a1)))))
set_option maxHeartbeats 8000000 in
theorem As.calls (a0:Int) (a1:Int) (r:Int) (w:World) (h:As.f a0 a1=some r):
  Calls Tryz.prog 119 #[.int .i64 a0,.int .i64 a1] w fun e w'=>e= .returned (.int .i64 r)∧Drawn0 w w':=by
 have H:(if a1=0 then (none) else (if (Int.tmod a0 a1)=0 then (some (wrap64 (Int.tdiv a0 a1))) else (if a0<0 then (some (wrap64 ((wrap64 (Int.tdiv a0 a1))-1))) else (some (wrap64 (Int.tdiv a0 a1))))))=some r:=h
 clear h
 by_cases c3:a1=0
 ·rw [if_pos c3] at H
  exact absurd H (by simp)
 ·rw [if_neg c3] at H
  have c3b0:(a1==0)=false:=beq_eq_false_iff_ne.mpr c3
  have c3b1:(a1 !=0)=true:=bne_iff_ne.mpr c3
  by_cases c4:(Int.tmod a0 a1)=0
  ·rw [if_pos c4] at H
   have c4b0:((Int.tmod a0 a1)==0)=true:=beq_iff_eq.mpr c4
   have c4b1:((Int.tmod a0 a1) !=0)=false:=bne_eq_false_iff_eq.mpr c4
   clear c4
   obtain rfl:=Option.some.inj H
   go_enter Tryz.func119,Tryz.ntmps119
   go_wp2
   go_ret
   exact ⟨by first|rfl|(simp; done)|(simp [*]; done),by repeat (first|exact Drawn0.refl _|apply Drawn0.step)⟩
  ·rw [if_neg c4] at H
   have c4b0:((Int.tmod a0 a1)==0)=false:=beq_eq_false_iff_ne.mpr c4
   have c4b1:((Int.tmod a0 a1) !=0)=true:=bne_iff_ne.mpr c4
   by_cases c5:a0<0
   ·rw [if_pos c5] at H
    have c5b0:decide (a0<0)=true:=decide_eq_true c5
    clear c5
    obtain rfl:=Option.some.inj H
    go_enter Tryz.func119,Tryz.ntmps119
    go_wp2
    go_ret
    exact ⟨by first|rfl|(simp; done)|(simp [*]; done),by repeat (first|exact Drawn0.refl _|apply Drawn0.step)⟩
   ·rw [if_neg c5] at H
    have c5b0:decide (a0<0)=false:=decide_eq_false c5
    clear c5
    obtain rfl:=Option.some.inj H
    go_enter Tryz.func119,Tryz.ntmps119
    go_wp2
    go_ret
    exact ⟨by first|rfl|(simp; done)|(simp [*]; done),by repeat (first|exact Drawn0.refl _|apply Drawn0.step)⟩
def Bb.f (a0:Int) (a1:Int):Option (Int):=(As.f (wrap64 (-a0)) a1).bind fun t106=>(some (wrap64 (-t106)))
set_option maxHeartbeats 8000000 in
theorem Bb.calls (a0:Int) (a1:Int) (r:Int) (w:World) (h:Bb.f a0 a1=some r):
  Calls Tryz.prog 120 #[.int .i64 a0,.int .i64 a1] w fun e w'=>e= .returned (.int .i64 r)∧Drawn0 w w':=by
 have H:((As.f (wrap64 (-a0)) a1).bind fun t106=>(some (wrap64 (-t106))))=some r:=h
 clear h
 replace H:=Option.bind_eq_some_iff.mp H
 obtain ⟨t106,A30,H⟩:=H
 replace H:(some (wrap64 (-t106)))=some r:=H
 have A3:=Aside0.mk A30
 clear A30
 obtain rfl:=Option.some.inj H
 go_enter Tryz.func120,Tryz.ntmps120
 go_wp2_with (first|((with_reducible refine E7 (f:=119) rfl ?_); refine Ex (some 8) rfl rfl Tryz.func119 (by kernel_rfl) rfl #[.int .i64 (wrap64 (-a0)),.int .i64 a1] rfl (by (try simp only [List.map_toArray,List.map_cons,List.map_nil]); first|done|rfl|(simp only [List.length_drop,List.length_take]; rfl)) ?_; (with_reducible refine (As.calls (wrap64 (-a0)) a1 t106 _ A3.out).mono ?_); rintro e w' ⟨rfl,⟨nd,rfl⟩⟩; refine ⟨_,rfl,?_⟩))
 go_ret
 exact ⟨by first|rfl|(simp; done)|(simp [*]; done),by repeat (first|exact Drawn0.refl _|apply Drawn0.step)⟩
def Qr (n:Int):ByteArray:=⟨(Go.Lib.itoa n).toArray⟩
def Du.f (a0:Int):Option (ByteArray):=if -9223372036854775808≤a0∧a0≤9223372036854775807 then some (Qr a0) else none
def Tab (w:World):Prop:=Go.Lib.TabIs Tryz.prog w "internal/strconv.uint64pow10" .u64 Go.Lib.pow10Tab
theorem Tab.below {w W:World} (h:Tab w) (hb:Below w.heap.size w W):Tab W:=by
 unfold Tab Go.Lib.TabIs World.var? at h ⊢
 obtain ⟨g,hg,h2⟩:=Option.bind_eq_some_iff.mp h
 rw [hg]
 have hlt:g<w.heap.size:=by
  rcases Nat.lt_or_ge g w.heap.size with h'|h'
  ·exact h'
  ·rw [Array.getElem?_eq_none h'] at h2; cases h2
 show (match W.heap[g]? with|some (.cells cs _ _)=>some cs|_=>none)=_
 rw [hb.block g hlt]
 exact h2
theorem Du.calls (a0:Int) (r:ByteArray) (w:World) (h:Du.f a0=some r) (ht:Tab w):
  Calls Tryz.prog 144 #[.int .i64 a0] w fun e w'=>e= .returned (.string r)∧Below w.heap.size w w':=by
 unfold Du.f at h
 by_cases hc: -9223372036854775808≤a0∧a0≤9223372036854775807
 ·rw [if_pos hc] at h
  cases h
  refine (Tryz.itoa a0 (by omega) (by omega) w ht).mono ?_
  rintro e w' ⟨rfl,k,os,rfl⟩
  exact ⟨rfl,Go.Lib.below_grow _ w (Nat.le_refl _) k os⟩
 ·rw [if_neg hc] at h; cases h
theorem Ek:(⟨#[46]⟩:ByteArray).size=1:=rfl
theorem EK:(⟨#[45]⟩:ByteArray).size=1:=rfl
theorem F6:(⟨#[91]⟩:ByteArray).size=1:=rfl
theorem Ei:(⟨#[40]⟩:ByteArray).size=1:=rfl
theorem Eh:(⟨#[44,32]⟩:ByteArray).size=2:=rfl
theorem Ej:(⟨#[]⟩:ByteArray).size=0:=rfl
def Cu.f (a0:Int):Option (ByteArray):=if a0<0 then ((Du.f (wrap64 (1000000+(Int.tmod (wrap64 (-a0)) 1000000)))).bind fun t126=>((Du.f (wrap64 (Int.tdiv (wrap64 (-a0)) 1000000))).bind fun t127=>(if 1+t127.size≤9223372036854775807 then (if ((⟨#[45]⟩:ByteArray)++t127).size+1≤9223372036854775807 then (if 1≤(t126.size:Int) then (if (((⟨#[45]⟩:ByteArray)++t127)++(⟨#[46]⟩:ByteArray)).size+(t126.extract 1 t126.size).size≤9223372036854775807 then (some ((((⟨#[45]⟩:ByteArray)++t127)++(⟨#[46]⟩:ByteArray))++(t126.extract 1 t126.size))) else (none)) else (none)) else (none)) else (none)))) else ((Du.f (wrap64 (1000000+(Int.tmod a0 1000000)))).bind fun t128=>((Du.f (wrap64 (Int.tdiv a0 1000000))).bind fun t129=>(if 0+t129.size≤9223372036854775807 then (if ((⟨#[]⟩:ByteArray)++t129).size+1≤9223372036854775807 then (if 1≤(t128.size:Int) then (if (((⟨#[]⟩:ByteArray)++t129)++(⟨#[46]⟩:ByteArray)).size+(t128.extract 1 t128.size).size≤9223372036854775807 then (some ((((⟨#[]⟩:ByteArray)++t129)++(⟨#[46]⟩:ByteArray))++(t128.extract 1 t128.size))) else (none)) else (none)) else (none)) else (none))))
def Cu.T5:Bool×List (List Nat×List Nat):=(true,[([],[]),([],[]),([1],[1]),([2],[2]),([0,3],[0,3]),([4],[4]),([],[]),([6],[6]),([5,7],[5,7]),([8,3,0,1,2,3,4,5,6,7,8],[8])])
def Cu.B5:List Nat:=[0,0,2,6,15,31,0,64,255,511]
theorem Cu.tab5:rtab .any (Qa Tryz.f143 5)=Cu.T5:=by kernel_rfl
theorem Cu.bits5:H5 Cu.T5.2 Cu.B5=true:=by kernel_rfl
set_option maxHeartbeats 8000000 in
theorem Cu.calls (a0:Int) (r:ByteArray) (w:World) (h:Cu.f a0=some r) (ht:Tab w):
  Calls Tryz.prog 143 #[.int .i64 a0] w fun e w'=>e= .returned (.string r)∧Below w.heap.size w w':=by
 have HTB:=Aside0.mk ht
 clear ht
 have HB:=Aside0.mk (Below.refl w.heap.size w)
 have H:(if a0<0 then ((Du.f (wrap64 (1000000+(Int.tmod (wrap64 (-a0)) 1000000)))).bind fun t126=>((Du.f (wrap64 (Int.tdiv (wrap64 (-a0)) 1000000))).bind fun t127=>(if 1+t127.size≤9223372036854775807 then (if ((⟨#[45]⟩:ByteArray)++t127).size+1≤9223372036854775807 then (if 1≤(t126.size:Int) then (if (((⟨#[45]⟩:ByteArray)++t127)++(⟨#[46]⟩:ByteArray)).size+(t126.extract 1 t126.size).size≤9223372036854775807 then (some ((((⟨#[45]⟩:ByteArray)++t127)++(⟨#[46]⟩:ByteArray))++(t126.extract 1 t126.size))) else (none)) else (none)) else (none)) else (none)))) else ((Du.f (wrap64 (1000000+(Int.tmod a0 1000000)))).bind fun t128=>((Du.f (wrap64 (Int.tdiv a0 1000000))).bind fun t129=>(if 0+t129.size≤9223372036854775807 then (if ((⟨#[]⟩:ByteArray)++t129).size+1≤9223372036854775807 then (if 1≤(t128.size:Int) then (if (((⟨#[]⟩:ByteArray)++t129)++(⟨#[46]⟩:ByteArray)).size+(t128.extract 1 t128.size).size≤9223372036854775807 then (some ((((⟨#[]⟩:ByteArray)++t129)++(⟨#[46]⟩:ByteArray))++(t128.extract 1 t128.size))) else (none)) else (none)) else (none)) else (none)))))=some r:=h
 clear h
 by_cases c2:a0<0
 ·rw [if_pos c2] at H
  have c2b0:decide (a0<0)=true:=decide_eq_true c2
  clear c2
  replace H:=Option.bind_eq_some_iff.mp H
  obtain ⟨t126,A30,H⟩:=H
  replace H:((Du.f (wrap64 (Int.tdiv (wrap64 (-a0)) 1000000))).bind fun t127=>(if 1+t127.size≤9223372036854775807 then (if ((⟨#[45]⟩:ByteArray)++t127).size+1≤9223372036854775807 then (if 1≤(t126.size:Int) then (if (((⟨#[45]⟩:ByteArray)++t127)++(⟨#[46]⟩:ByteArray)).size+(t126.extract 1 t126.size).size≤9223372036854775807 then (some ((((⟨#[45]⟩:ByteArray)++t127)++(⟨#[46]⟩:ByteArray))++(t126.extract 1 t126.size))) else (none)) else (none)) else (none)) else (none)))=some r:=H
  have A3:=Aside0.mk A30
  clear A30
  replace H:=Option.bind_eq_some_iff.mp H
  obtain ⟨t127,A40,H⟩:=H
  replace H:(if 1+t127.size≤9223372036854775807 then (if ((⟨#[45]⟩:ByteArray)++t127).size+1≤9223372036854775807 then (if 1≤(t126.size:Int) then (if (((⟨#[45]⟩:ByteArray)++t127)++(⟨#[46]⟩:ByteArray)).size+(t126.extract 1 t126.size).size≤9223372036854775807 then (some ((((⟨#[45]⟩:ByteArray)++t127)++(⟨#[46]⟩:ByteArray))++(t126.extract 1 t126.size))) else (none)) else (none)) else (none)) else (none))=some r:=H
  have A4:=Aside0.mk A40
  clear A40
  by_cases c5:1+t127.size≤9223372036854775807
  ·rw [if_pos c5] at H
   have c5b0:=eq_true c5
   have c5b1:decide (1+t127.size≤9223372036854775807)=true:=decide_eq_true c5
   try have c5b2:(9223372036854775807<1+t127.size)=False:=eq_false (Nat.not_lt.2 c5)
   (try have c5b3:=c5b2)
   (try simp only [ByteArray.size_append,ByteArray.size_extract,Ek,EK,F6,Ei,Eh,Ej,Nat.min_self,Nat.zero_add] at c5b3)
   by_cases c6:((⟨#[45]⟩:ByteArray)++t127).size+1≤9223372036854775807
   ·rw [if_pos c6] at H
    have c6b0:=eq_true c6
    have c6b1:decide (((⟨#[45]⟩:ByteArray)++t127).size+1≤9223372036854775807)=true:=decide_eq_true c6
    try have c6b2:(9223372036854775807<((⟨#[45]⟩:ByteArray)++t127).size+1)=False:=eq_false (Nat.not_lt.2 c6)
    (try have c6b3:=c6b2)
    (try simp only [ByteArray.size_append,ByteArray.size_extract,Ek,EK,F6,Ei,Eh,Ej,Nat.min_self,Nat.zero_add] at c6b3)
    by_cases c7:1≤(t126.size:Int)
    ·rw [if_pos c7] at H
     have c7b0:=eq_true c7
     have c7b1:decide (1≤(t126.size:Int))=true:=decide_eq_true c7
     clear c7
     by_cases c8:(((⟨#[45]⟩:ByteArray)++t127)++(⟨#[46]⟩:ByteArray)).size+(t126.extract 1 t126.size).size≤9223372036854775807
     ·rw [if_pos c8] at H
      have c8b0:=eq_true c8
      have c8b1:decide ((((⟨#[45]⟩:ByteArray)++t127)++(⟨#[46]⟩:ByteArray)).size+(t126.extract 1 t126.size).size≤9223372036854775807)=true:=decide_eq_true c8
      try have c8b2:(9223372036854775807<(((⟨#[45]⟩:ByteArray)++t127)++(⟨#[46]⟩:ByteArray)).size+(t126.extract 1 t126.size).size)=False:=eq_false (Nat.not_lt.2 c8)
      (try have c8b3:=c8b2)
      (try simp only [ByteArray.size_append,ByteArray.size_extract,Ek,EK,F6,Ei,Eh,Ej,Nat.min_self,Nat.zero_add] at c8b3)
      obtain rfl:=Option.some.inj H
      go_enter Tryz.func143,Tryz.ntmps143
      try go_wp2_with (first|((with_reducible refine E7 (f:=144) rfl ?_); refine Ex (some 12) rfl rfl Tryz.func144 (by kernel_rfl) rfl #[.int .i64 (wrap64 (1000000+(Int.tmod (wrap64 (-a0)) 1000000)))] rfl (by (try simp only [List.map_toArray,List.map_cons,List.map_nil]); first|done|rfl|(simp only [List.length_drop,List.length_take]; rfl)) ?_; (with_reducible refine (Du.calls (wrap64 (1000000+(Int.tmod (wrap64 (-a0)) 1000000))) t126 _ A3.out (Tab.below HTB.out (by repeat (first|(with_reducible first|exact HB.out|apply Af|apply Ab|apply Ae)|exact HB.out)))).mono ?_); rintro e w9 ⟨rfl,hb⟩; refine ⟨_,rfl,?_⟩; have n0_:=Aside0.mk (Ce (by repeat (first|(with_reducible first|exact HB.out|apply Af|apply Ab|apply Ae)|exact HB.out)) hb); clear HB; have HB:=n0_; clear n0_; (try clear hb); (try clear hb2); (try clear hk); (try clear hi)))
      have n0_:=Aside0.mk (Ae HB.out)
      clear HB
      have HB:=n0_
      clear n0_
      refine MG (n:=10) (S:=fun w'=>True) (ds:=[]) #[false,false,false,false,false,false,false,false,false,false] (by kernel_rfl) rfl rfl trivial (fun hHeld=> ?_); refine Hu Cu.tab5 Cu.bits5 (fun HT_ HW_=> ?_)
      generalize w9.drew=w10 at HB hHeld ⊢
      refine Eo (i:=0) (N:=some 13) (v:= ?_) (a':= ?_) #[true,false,false,false,false,false,false,false,false,false] rfl rfl (ET HT_.out (by kernel_rfl)) (fun _ _ _ h=>h) (Or.inl ⟨by rfl,?_⟩) ?_ ?_
      rotate_left
      ·intro w'
       go_simp
       with_reducible rfl
      rotate_left
      ·simp only [Act.put,List.setIfInBounds_toArray,List.set_cons_zero,List.set_cons_succ,ER,ES]
       rfl
      refine Eo (i:=1) (N:=some 14) (v:= ?_) (a':= ?_) #[true,true,false,false,false,false,false,false,false,false] rfl rfl (ET HT_.out (by kernel_rfl)) (fun _ _ _ h=>h) (Or.inl ⟨by rfl,?_⟩) ?_ ?_
      rotate_left
      ·intro w'
       go_simp
       with_reducible rfl
      rotate_left
      ·simp only [Act.put,List.setIfInBounds_toArray,List.set_cons_zero,List.set_cons_succ,ER,ES]
       rfl
      refine Eo (i:=2) (N:=some 15) (v:= ?_) (a':= ?_) #[true,true,true,false,false,false,false,false,false,false] rfl rfl (ET HT_.out (by kernel_rfl)) (fun _ _ _ h=>h) (Or.inl ⟨by rfl,?_⟩) ?_ ?_
      rotate_left
      ·intro w'
       go_simp
       with_reducible rfl
      rotate_left
      ·simp only [Act.put,List.setIfInBounds_toArray,List.set_cons_zero,List.set_cons_succ,ER,ES]
       rfl
      refine Eo (i:=6) (N:=some 19) (v:= ?_) (a':= ?_) #[true,true,true,false,false,false,true,false,false,false] rfl rfl (ET HT_.out (by kernel_rfl)) (fun _ _ _ h=>h) (Or.inl ⟨by rfl,?_⟩) ?_ ?_
      rotate_left
      ·intro w'
       go_simp
       with_reducible rfl
      rotate_left
      ·simp only [Act.put,List.setIfInBounds_toArray,List.set_cons_zero,List.set_cons_succ,ER,ES]
       rfl
      refine Eo (i:=7) (N:=some 20) (v:= ?_) (a':= ?_) #[true,true,true,false,false,false,true,true,false,false] rfl rfl (ET HT_.out (by kernel_rfl)) (fun _ _ _ h=>h) (Or.inl ⟨by rfl,?_⟩) ?_ ?_
      rotate_left
      ·intro w'
       go_simp
       with_reducible rfl
      rotate_left
      ·simp only [Act.put,List.setIfInBounds_toArray,List.set_cons_zero,List.set_cons_succ,ER,ES]
       rfl
      refine one_ (i:=3) (N:=some 16) #[true,true,true,true,false,false,true,true,false,false] rfl rfl (Gi HT_.out (by kernel_rfl)) (by decide) (fun K hK=> ?_)
      refine K2 Tryz.func144 (by kernel_rfl) rfl #[.int .i64 (wrap64 (Int.tdiv (wrap64 (-a0)) 1000000))] (by rfl) rfl rfl (by (try simp only [List.map_toArray,List.map_cons,List.map_nil]); first|done|rfl|(simp only [List.length_drop,List.length_take]; rfl)) ?_
      with_reducible refine (Du.calls (wrap64 (Int.tdiv (wrap64 (-a0)) 1000000)) t127 _ A4.out (Tab.below HTB.out (by repeat (first|(with_reducible first|exact HB.out|apply Af|apply Ab|apply Ae)|exact HB.out)))).mono ?_
      rintro e w11 ⟨rfl,hb⟩
      refine ⟨_,rfl,?_⟩
      have n0_:=Aside0.mk (Ce (by repeat (first|(with_reducible first|exact HB.out|apply Af|apply Ab|apply Ae)|exact HB.out)) hb)
      clear HB
      have HB:=n0_
      clear n0_
      (try clear hb)
      (try clear hb2)
      (try clear hk)
      (try clear hi)
      refine hK.out _ _ trivial (fun hHeld=> ?_)
      clear hK K
      refine IQ (a':= ?_) ?_ ?_
      rotate_left
      ·show Act.put _ (some 16) _=_
       simp only [Act.put,List.setIfInBounds_toArray,List.set_cons_zero,List.set_cons_succ,ER,ES]
       rfl
      refine Eo (i:=4) (N:=some 17) (v:= ?_) (a':= ?_) #[true,true,true,true,true,false,true,true,false,false] rfl rfl (ET HT_.out (by kernel_rfl)) (fun _ _ _ h=>h) (Or.inl ⟨by rfl,?_⟩) ?_ ?_
      rotate_left
      ·intro w'
       go_simp
       with_reducible rfl
      rotate_left
      ·simp only [Act.put,List.setIfInBounds_toArray,List.set_cons_zero,List.set_cons_succ,ER,ES]
       rfl
      refine Eo (i:=5) (N:=some 18) (v:= ?_) (a':= ?_) #[true,true,true,true,true,true,true,true,false,false] rfl rfl (ET HT_.out (by kernel_rfl)) (fun _ _ _ h=>h) (Or.inl ⟨by rfl,?_⟩) ?_ ?_
      rotate_left
      ·intro w'
       go_simp
       with_reducible rfl
      rotate_left
      ·simp only [Act.put,List.setIfInBounds_toArray,List.set_cons_zero,List.set_cons_succ,ER,ES]
       rfl
      refine Eo (i:=8) (N:=some 21) (v:= ?_) (a':= ?_) #[true,true,true,true,true,true,true,true,true,false] rfl rfl (ET HT_.out (by kernel_rfl)) (fun _ _ _ h=>h) (Or.inl ⟨by rfl,?_⟩) ?_ ?_
      rotate_left
      ·intro w'
       go_simp
       with_reducible rfl
      rotate_left
      ·simp only [Act.put,List.setIfInBounds_toArray,List.set_cons_zero,List.set_cons_succ,ER,ES]
       rfl
      refine Eo (i:=9) (N:=some 2) (v:= ?_) (a':= ?_) #[true,true,true,true,true,true,true,true,true,true] rfl rfl (ET HT_.out (by kernel_rfl)) (fun _ _ _ h=>h) (Or.inl ⟨by rfl,?_⟩) ?_ ?_
      rotate_left
      ·intro w'
       go_simp
       with_reducible rfl
      rotate_left
      ·simp only [Act.put,List.setIfInBounds_toArray,List.set_cons_zero,List.set_cons_succ,ER,ES]
       rfl
      refine PM (KT HT_.out (by kernel_rfl)) ?_
      try go_wp2
      go_ret
      exact ⟨by first|rfl|(simp [Dk,Dj]<;>rfl)|(simp [*,Dk,Dj]<;>rfl),by repeat (first|(with_reducible first|exact HB.out|apply Af|apply Ab|apply Ae)|exact HB.out)⟩
     ·rw [if_neg c8] at H
      exact absurd H (by simp)
    ·rw [if_neg c7] at H
     exact absurd H (by simp)
   ·rw [if_neg c6] at H
    exact absurd H (by simp)
  ·rw [if_neg c5] at H
   exact absurd H (by simp)
 ·rw [if_neg c2] at H
  have c2b0:decide (a0<0)=false:=decide_eq_false c2
  clear c2
  replace H:=Option.bind_eq_some_iff.mp H
  obtain ⟨t128,A120,H⟩:=H
  replace H:((Du.f (wrap64 (Int.tdiv a0 1000000))).bind fun t129=>(if 0+t129.size≤9223372036854775807 then (if ((⟨#[]⟩:ByteArray)++t129).size+1≤9223372036854775807 then (if 1≤(t128.size:Int) then (if (((⟨#[]⟩:ByteArray)++t129)++(⟨#[46]⟩:ByteArray)).size+(t128.extract 1 t128.size).size≤9223372036854775807 then (some ((((⟨#[]⟩:ByteArray)++t129)++(⟨#[46]⟩:ByteArray))++(t128.extract 1 t128.size))) else (none)) else (none)) else (none)) else (none)))=some r:=H
  have A12:=Aside0.mk A120
  clear A120
  replace H:=Option.bind_eq_some_iff.mp H
  obtain ⟨t129,A130,H⟩:=H
  replace H:(if 0+t129.size≤9223372036854775807 then (if ((⟨#[]⟩:ByteArray)++t129).size+1≤9223372036854775807 then (if 1≤(t128.size:Int) then (if (((⟨#[]⟩:ByteArray)++t129)++(⟨#[46]⟩:ByteArray)).size+(t128.extract 1 t128.size).size≤9223372036854775807 then (some ((((⟨#[]⟩:ByteArray)++t129)++(⟨#[46]⟩:ByteArray))++(t128.extract 1 t128.size))) else (none)) else (none)) else (none)) else (none))=some r:=H
  have A13:=Aside0.mk A130
  clear A130
  by_cases c14:0+t129.size≤9223372036854775807
  ·rw [if_pos c14] at H
   have c14b0:=eq_true c14
   have c14b1:decide (0+t129.size≤9223372036854775807)=true:=decide_eq_true c14
   try have c14b2:(9223372036854775807<0+t129.size)=False:=eq_false (Nat.not_lt.2 c14)
   (try have c14b3:=c14b2)
   (try simp only [ByteArray.size_append,ByteArray.size_extract,Ek,EK,F6,Ei,Eh,Ej,Nat.min_self,Nat.zero_add] at c14b3)
   by_cases c15:((⟨#[]⟩:ByteArray)++t129).size+1≤9223372036854775807
   ·rw [if_pos c15] at H
    have c15b0:=eq_true c15
    have c15b1:decide (((⟨#[]⟩:ByteArray)++t129).size+1≤9223372036854775807)=true:=decide_eq_true c15
    try have c15b2:(9223372036854775807<((⟨#[]⟩:ByteArray)++t129).size+1)=False:=eq_false (Nat.not_lt.2 c15)
    (try have c15b3:=c15b2)
    (try simp only [ByteArray.size_append,ByteArray.size_extract,Ek,EK,F6,Ei,Eh,Ej,Nat.min_self,Nat.zero_add] at c15b3)
    by_cases c16:1≤(t128.size:Int)
    ·rw [if_pos c16] at H
     have c16b0:=eq_true c16
     have c16b1:decide (1≤(t128.size:Int))=true:=decide_eq_true c16
     clear c16
     by_cases c17:(((⟨#[]⟩:ByteArray)++t129)++(⟨#[46]⟩:ByteArray)).size+(t128.extract 1 t128.size).size≤9223372036854775807
     ·rw [if_pos c17] at H
      have c17b0:=eq_true c17
      have c17b1:decide ((((⟨#[]⟩:ByteArray)++t129)++(⟨#[46]⟩:ByteArray)).size+(t128.extract 1 t128.size).size≤9223372036854775807)=true:=decide_eq_true c17
      try have c17b2:(9223372036854775807<(((⟨#[]⟩:ByteArray)++t129)++(⟨#[46]⟩:ByteArray)).size+(t128.extract 1 t128.size).size)=False:=eq_false (Nat.not_lt.2 c17)
      (try have c17b3:=c17b2)
      (try simp only [ByteArray.size_append,ByteArray.size_extract,Ek,EK,F6,Ei,Eh,Ej,Nat.min_self,Nat.zero_add] at c17b3)
      obtain rfl:=Option.some.inj H
      go_enter Tryz.func143,Tryz.ntmps143
      try go_wp2_with (first|((with_reducible refine E7 (f:=144) rfl ?_); refine Ex (some 12) rfl rfl Tryz.func144 (by kernel_rfl) rfl #[.int .i64 (wrap64 (1000000+(Int.tmod a0 1000000)))] rfl (by (try simp only [List.map_toArray,List.map_cons,List.map_nil]); first|done|rfl|(simp only [List.length_drop,List.length_take]; rfl)) ?_; (with_reducible refine (Du.calls (wrap64 (1000000+(Int.tmod a0 1000000))) t128 _ A12.out (Tab.below HTB.out (by repeat (first|(with_reducible first|exact HB.out|apply Af|apply Ab|apply Ae)|exact HB.out)))).mono ?_); rintro e w18 ⟨rfl,hb⟩; refine ⟨_,rfl,?_⟩; have n0_:=Aside0.mk (Ce (by repeat (first|(with_reducible first|exact HB.out|apply Af|apply Ab|apply Ae)|exact HB.out)) hb); clear HB; have HB:=n0_; clear n0_; (try clear hb); (try clear hb2); (try clear hk); (try clear hi)))
      have n0_:=Aside0.mk (Ae HB.out)
      clear HB
      have HB:=n0_
      clear n0_
      refine MG (n:=10) (S:=fun w'=>True) (ds:=[]) #[false,false,false,false,false,false,false,false,false,false] (by kernel_rfl) rfl rfl trivial (fun hHeld=> ?_); refine Hu Cu.tab5 Cu.bits5 (fun HT_ HW_=> ?_)
      generalize w18.drew=w19 at HB hHeld ⊢
      refine Eo (i:=0) (N:=some 13) (v:= ?_) (a':= ?_) #[true,false,false,false,false,false,false,false,false,false] rfl rfl (ET HT_.out (by kernel_rfl)) (fun _ _ _ h=>h) (Or.inl ⟨by rfl,?_⟩) ?_ ?_
      rotate_left
      ·intro w'
       go_simp
       with_reducible rfl
      rotate_left
      ·simp only [Act.put,List.setIfInBounds_toArray,List.set_cons_zero,List.set_cons_succ,ER,ES]
       rfl
      refine Eo (i:=1) (N:=some 14) (v:= ?_) (a':= ?_) #[true,true,false,false,false,false,false,false,false,false] rfl rfl (ET HT_.out (by kernel_rfl)) (fun _ _ _ h=>h) (Or.inl ⟨by rfl,?_⟩) ?_ ?_
      rotate_left
      ·intro w'
       go_simp
       with_reducible rfl
      rotate_left
      ·simp only [Act.put,List.setIfInBounds_toArray,List.set_cons_zero,List.set_cons_succ,ER,ES]
       rfl
      refine Eo (i:=2) (N:=some 15) (v:= ?_) (a':= ?_) #[true,true,true,false,false,false,false,false,false,false] rfl rfl (ET HT_.out (by kernel_rfl)) (fun _ _ _ h=>h) (Or.inl ⟨by rfl,?_⟩) ?_ ?_
      rotate_left
      ·intro w'
       go_simp
       with_reducible rfl
      rotate_left
      ·simp only [Act.put,List.setIfInBounds_toArray,List.set_cons_zero,List.set_cons_succ,ER,ES]
       rfl
      refine Eo (i:=6) (N:=some 19) (v:= ?_) (a':= ?_) #[true,true,true,false,false,false,true,false,false,false] rfl rfl (ET HT_.out (by kernel_rfl)) (fun _ _ _ h=>h) (Or.inl ⟨by rfl,?_⟩) ?_ ?_
      rotate_left
      ·intro w'
       go_simp
       with_reducible rfl
      rotate_left
      ·simp only [Act.put,List.setIfInBounds_toArray,List.set_cons_zero,List.set_cons_succ,ER,ES]
       rfl
      refine Eo (i:=7) (N:=some 20) (v:= ?_) (a':= ?_) #[true,true,true,false,false,false,true,true,false,false] rfl rfl (ET HT_.out (by kernel_rfl)) (fun _ _ _ h=>h) (Or.inl ⟨by rfl,?_⟩) ?_ ?_
      rotate_left
      ·intro w'
       go_simp
       with_reducible rfl
      rotate_left
      ·simp only [Act.put,List.setIfInBounds_toArray,List.set_cons_zero,List.set_cons_succ,ER,ES]
       rfl
      refine one_ (i:=3) (N:=some 16) #[true,true,true,true,false,false,true,true,false,false] rfl rfl (Gi HT_.out (by kernel_rfl)) (by decide) (fun K hK=> ?_)
      refine K2 Tryz.func144 (by kernel_rfl) rfl #[.int .i64 (wrap64 (Int.tdiv a0 1000000))] (by rfl) rfl rfl (by (try simp only [List.map_toArray,List.map_cons,List.map_nil]); first|done|rfl|(simp only [List.length_drop,List.length_take]; rfl)) ?_
      with_reducible refine (Du.calls (wrap64 (Int.tdiv a0 1000000)) t129 _ A13.out (Tab.below HTB.out (by repeat (first|(with_reducible first|exact HB.out|apply Af|apply Ab|apply Ae)|exact HB.out)))).mono ?_
      rintro e w20 ⟨rfl,hb⟩
      refine ⟨_,rfl,?_⟩
      have n0_:=Aside0.mk (Ce (by repeat (first|(with_reducible first|exact HB.out|apply Af|apply Ab|apply Ae)|exact HB.out)) hb)
      clear HB
      have HB:=n0_
      clear n0_
      (try clear hb)
      (try clear hb2)
      (try clear hk)
      (try clear hi)
      refine hK.out _ _ trivial (fun hHeld=> ?_)
      clear hK K
      refine IQ (a':= ?_) ?_ ?_
      rotate_left
      ·show Act.put _ (some 16) _=_
       simp only [Act.put,List.setIfInBounds_toArray,List.set_cons_zero,List.set_cons_succ,ER,ES]
       rfl
      refine Eo (i:=4) (N:=some 17) (v:= ?_) (a':= ?_) #[true,true,true,true,true,false,true,true,false,false] rfl rfl (ET HT_.out (by kernel_rfl)) (fun _ _ _ h=>h) (Or.inl ⟨by rfl,?_⟩) ?_ ?_
      rotate_left
      ·intro w'
       go_simp
       with_reducible rfl
      rotate_left
      ·simp only [Act.put,List.setIfInBounds_toArray,List.set_cons_zero,List.set_cons_succ,ER,ES]
       rfl
      refine Eo (i:=5) (N:=some 18) (v:= ?_) (a':= ?_) #[true,true,true,true,true,true,true,true,false,false] rfl rfl (ET HT_.out (by kernel_rfl)) (fun _ _ _ h=>h) (Or.inl ⟨by rfl,?_⟩) ?_ ?_
      rotate_left
      ·intro w'
       go_simp
       with_reducible rfl
      rotate_left
      ·simp only [Act.put,List.setIfInBounds_toArray,List.set_cons_zero,List.set_cons_succ,ER,ES]
       rfl
      refine Eo (i:=8) (N:=some 21) (v:= ?_) (a':= ?_) #[true,true,true,true,true,true,true,true,true,false] rfl rfl (ET HT_.out (by kernel_rfl)) (fun _ _ _ h=>h) (Or.inl ⟨by rfl,?_⟩) ?_ ?_
      rotate_left
      ·intro w'
       go_simp
       with_reducible rfl
      rotate_left
      ·simp only [Act.put,List.setIfInBounds_toArray,List.set_cons_zero,List.set_cons_succ,ER,ES]
       rfl
      refine Eo (i:=9) (N:=some 2) (v:= ?_) (a':= ?_) #[true,true,true,true,true,true,true,true,true,true] rfl rfl (ET HT_.out (by kernel_rfl)) (fun _ _ _ h=>h) (Or.inl ⟨by rfl,?_⟩) ?_ ?_
      rotate_left
      ·intro w'
       go_simp
       with_reducible rfl
      rotate_left
      ·simp only [Act.put,List.setIfInBounds_toArray,List.set_cons_zero,List.set_cons_succ,ER,ES]
       rfl
      refine PM (KT HT_.out (by kernel_rfl)) ?_
      try go_wp2
      go_ret
      exact ⟨by first|rfl|(simp [Dk,Dj]<;>rfl)|(simp [*,Dk,Dj]<;>rfl),by repeat (first|(with_reducible first|exact HB.out|apply Af|apply Ab|apply Ae)|exact HB.out)⟩
     ·rw [if_neg c17] at H
      exact absurd H (by simp)
    ·rw [if_neg c16] at H
     exact absurd H (by simp)
   ·rw [if_neg c15] at H
    exact absurd H (by simp)
  ·rw [if_neg c14] at H
   exact absurd H (by simp)
end Go.Proofs.YtpejalpgficopaaGreatDoor.PPr
end
