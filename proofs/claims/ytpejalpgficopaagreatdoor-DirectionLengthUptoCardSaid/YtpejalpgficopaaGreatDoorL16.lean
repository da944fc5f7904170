/- A part of what the law's proof leans on. PACKED BY pack.py of this repo. -/
import Derived.Test.YtpejalpgficopaaGreatDoorL15
import Derived.Test.YtpejalpgficopaaGreatDoorRows
set_option linter.unusedVariables false
set_option linter.unusedSimpArgs false
set_option linter.defProp false
set_option linter.unusedSectionVars false
section
namespace RX
open Go Go.RowKit
theorem okWide_agg {P:Program} {w:World} {r:Reach} {b:Nat} {t:TypeId} {v:Value} {ts:List TypeId} (hu:(match P.underlying t with|some (.struct _)=>true|some (.array _ _)=>true|_=>false)=true) (hc:P.cellTypes P.depth t=some ts) (hn:P.cellsOf t=ts.length) (h:Value.okWide P w r b t v):
  ∃l:List Value,v= .agg ⟨l⟩∧l.length=ts.length∧∀(i:Nat) (x:Value) (u:TypeId),l[i]? =some x→ts[i]? =some u→Cell.okWide P w r b u x:=by
 have key:∃cs,v= .agg cs∧cs.size=P.cellsOf t∧Row.okWide P w r b t cs:=by
  unfold Value.okWide at h
  split at h
  ·exact h
  ·exact h
  ·rename_i h1 h2
   split at hu
   ·rename_i hs; exact absurd hs (h1 _)
   ·rename_i hs; exact absurd hs (h2 _ _)
   ·cases hu
 obtain ⟨cs,rfl,hsz,ts',hts,_,hcell⟩:=key
 rw [hc] at hts
 injection hts with hts
 subst hts
 refine ⟨cs.toList,rfl,by simp [hsz,hn],fun i x u hx hu'=> ?_⟩
 have hx':cs[i]? =some x:=by simpa using hx
 obtain ⟨u',e,hk⟩:=hcell i x hx'
 have hlt:i<ts.length:=(List.getElem?_eq_some_iff.1 hu').1
 rw [Nat.mod_eq_of_lt hlt,hu'] at e
 injection e with e
 subst e
 exact hk
theorem len_succ {α:Type} {l:List α} {n:Nat} (h:l.length=n+1):∃x l',l=x::l'∧l'.length=n:=by
 cases l with
 |nil=>simp at h
 |cons x l'=>exact ⟨x,l',rfl,by simpa using h⟩
theorem len_zero {α:Type} {l:List α} (h:l.length=0):l=[]:=List.length_eq_zero_iff.1 h
theorem cell_int {P:Program} {w:World} {r:Reach} {b:Nat} {u:TypeId} {k:IntKind} {x:Value} (hu:P.underlying u=some (.int k)) (h:Cell.okWide P w r b u x):∃n,x= .int k n∧k.has n:=by
 unfold Cell.okWide at h
 rw [hu] at h
 cases x<;>simp [Cell.ok,hu] at h
 obtain ⟨rfl,h⟩:=h
 exact ⟨_,rfl,h⟩
theorem cell_bool {P:Program} {w:World} {r:Reach} {b:Nat} {u:TypeId} {x:Value} (hu:P.underlying u=some .bool) (h:Cell.okWide P w r b u x):∃n,x= .bool n:=by
 unfold Cell.okWide at h
 rw [hu] at h
 cases x<;>simp [Cell.ok,hu] at h
 exact ⟨_,rfl⟩
theorem trod_lt {H:Type} {enc:TypeId×Value→H} {P:Program} {w:World} {spare:Nat→Bool} {held:Bool} {t:TypeId} {v:Value} {d:DataW H} {ps:List MemPlace} (h:DataW.Trod enc P w 0 spare held t v d ps):∀x∈ps,x.block<w.heap.size:=by
 obtain ⟨m,hm⟩:=h
 exact DataW.trod_lt m _ _ _ hm
end RX
end
section
namespace RX
open Go Go.RowKit
def hasS (P:Program):Nat→TypeId→Nat→Bool
 |0,_,_=>false
 | n +1,t,i=>
  match P.underlying t with
  |some .string=>Nat.beq i 0
  | some (.struct fs)=>(List.range fs.size).any fun j=>match fs[j]? with
   |some f=>decide (f.offset≤i)&&(decide (i<f.offset+P.cellsOf f.type)&&hasS P n f.type (i-f.offset))
   |none=>false
  |some (.array m e)=>decide (i<m*P.cellsOf e)&&hasS P n e (i%P.cellsOf e)
  |_=>false
theorem bulkAll_mem {H:Type} {d:DataW H} :∀ {l:List (DataW H)},d∈l→Go.Proofs.YtpejalpgficopaaGreatDoor.Rows.uptoBulk d≤Go.Proofs.YtpejalpgficopaaGreatDoor.Rows.uptoBulkAll l
 |[],h=>by cases h
 | x::r,h=>by
  simp only [Go.Proofs.YtpejalpgficopaaGreatDoor.Rows.uptoBulkAll]
  rcases List.mem_cons.1 h with rfl|h
  ·omega
  ·have:=bulkAll_mem h; omega
theorem sub_get {α:Type} {l:List α} {o c i:Nat} (h1:o≤i) (h2:i<o+c):((l.drop o).take c)[i-o]? =l[i]? :=by
 rw [List.getElem?_take_of_lt (by omega),List.getElem?_drop]
 congr 1; omega
theorem trod_bulk {H:Type} {enc:TypeId×Value→H} {P:Program} {w:World} {base:Nat} {spare:Nat→Bool} {held:Bool} {s:ByteArray} :∀(n:Nat) (t:TypeId) (i:Nat),hasS P n t i=true→∀(fuel:Nat) (cs:List Value) (x:DataW H×List MemPlace),DataW.trod enc P w base spare held fuel t cs=some x→cs[i]? =some (.string s)→s.size+1≤Go.Proofs.YtpejalpgficopaaGreatDoor.Rows.uptoBulk x.1
 |0,_,_,h=>by cases h
 | n + 1,t,i,h=>fun fuel cs x hx hi=>by
  unfold hasS at h
  split at h
  ·rename_i hu
   obtain ⟨s',hc,rfl,_⟩:=DataW.trod_string hu hx
   have h0:=Nat.eq_of_beq_eq_true h
   subst h0 hc
   simp only [List.getElem?_cons_zero,Option.some.injEq,Value.string.injEq] at hi
   subst hi
   simp only [Go.Proofs.YtpejalpgficopaaGreatDoor.Rows.uptoBulk]
   exact Nat.le_refl _
  ·rename_i fs hu
   obtain ⟨ys,m,_,rfl,hl,hlen,hf⟩:=DataW.trod_struct hu hx
   rw [List.any_eq_true] at h
   obtain ⟨j,hj,h⟩:=h
   split at h
   ·rename_i f hfj
    simp only [Bool.and_eq_true,decide_eq_true_eq] at h
    obtain ⟨h1,h2,h3⟩:=h
    have hjl:j<fs.size:=(Array.getElem?_eq_some_iff.1 hfj).1
    have hy:=hf j f hfj
    have hj':ys[j]? =some (ys[j]'(by omega)):=List.getElem?_eq_getElem (by omega)
    rw [hj'] at hy
    have:=trod_bulk n f.type (i-f.offset) h3 _ _ _ hy (by rw [sub_get h1 h2]; exact hi)
    have hm:=bulkAll_mem (d:=(ys[j]'(by omega)).1) (l:=ys.map (·.1)) (List.mem_map.2 ⟨_,List.getElem_mem _,rfl⟩)
    simp only [Go.Proofs.YtpejalpgficopaaGreatDoor.Rows.uptoBulk]
    omega
   ·cases h
  ·rename_i m e hu
   obtain ⟨ys,k,_,rfl,hl,hlen,hf⟩:=DataW.trod_array hu hx
   simp only [Bool.and_eq_true,decide_eq_true_eq] at h
   obtain ⟨h1,h2⟩:=h
   have hc:0<P.cellsOf e:=Nat.pos_of_ne_zero fun h0=>by rw [h0,Nat.mul_zero] at h1; omega
   have hd:i/P.cellsOf e<m:=Nat.div_lt_of_lt_mul (by rw [Nat.mul_comm]; exact h1)
   have hy:=hf (i/P.cellsOf e) hd
   have hj':ys[i/P.cellsOf e]? =some (ys[i/P.cellsOf e]'(by omega)):=List.getElem?_eq_getElem (by omega)
   rw [hj'] at hy
   have e1:i%P.cellsOf e=i-i/P.cellsOf e*P.cellsOf e:=by
    have:=Nat.div_add_mod i (P.cellsOf e)
    rw [Nat.mul_comm] at this
    omega
   have l1:i/P.cellsOf e*P.cellsOf e≤i:=Nat.div_mul_le_self i _
   have l2:i<i/P.cellsOf e*P.cellsOf e+P.cellsOf e:=by
    have:=Nat.mod_lt i hc
    omega
   have:=trod_bulk n e (i%P.cellsOf e) h2 _ _ _ hy (by rw [e1,sub_get l1 l2]; exact hi)
   have hm:=bulkAll_mem (d:=(ys[i/P.cellsOf e]'(by omega)).1) (l:=ys.map (·.1)) (List.mem_map.2 ⟨_,List.getElem_mem _,rfl⟩)
   simp only [Go.Proofs.YtpejalpgficopaaGreatDoor.Rows.uptoBulk]
   omega
  ·cases h
theorem cell_string {P:Program} {w:World} {r:Reach} {b:Nat} {u:TypeId} {x:Value} (hu:P.underlying u=some .string) (h:Cell.okWide P w r b u x):∃n,x= .string n:=by
 unfold Cell.okWide at h
 rw [hu] at h
 cases x<;>simp [Cell.ok,hu] at h
 exact ⟨_,rfl⟩
theorem size_le {H:Type} {enc:TypeId×Value→H} {P:Program} {w:World} {spare:Nat→Bool} {held:Bool} {t:TypeId} {cs:List Value} {d:DataW H} {ps:List MemPlace} {ds:List (DataW H)} {s:ByteArray} {B:Nat} (h:DataW.Trod enc P w 0 spare held t (.agg ⟨cs⟩) d ps) (hd:d∈ds) (hB:Go.Proofs.YtpejalpgficopaaGreatDoor.Rows.uptoBulkAll ds≤B) (n i:Nat) (hh:hasS P n t i=true) (hi:cs[i]? =some (.string s)):s.size≤B:=by
 obtain ⟨fuel,hf⟩:=h
 have h1:=trod_bulk n t i hh fuel cs _ hf hi
 have h2:=bulkAll_mem hd
 simp only at h1
 omega
end RX
end
