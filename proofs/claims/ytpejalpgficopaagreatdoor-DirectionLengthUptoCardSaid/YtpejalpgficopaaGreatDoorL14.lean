/- A part of what the law's proof leans on. PACKED BY pack.py of this repo. -/
import Derived.Test.YtpejalpgficopaaGreatDoorL13
set_option linter.unusedVariables false
set_option linter.unusedSimpArgs false
set_option linter.defProp false
set_option linter.unusedSectionVars false
section
namespace Go.Proofs.YtpejalpgficopaaGreatDoor.G
set_option maxRecDepth 100000
open Go Go.Proofs Go.RowKit RX
noncomputable def culetlaw28_few.K {R:Type} (CZ:TF5 (Bool)) (CY:TF5 Bool) (A2:Bool) (A3:ByteArray) (A8:Bool) (A7:ByteArray) (A6:Bool) (A9:ByteArray) (AB:Bool) (AA:ByteArray) (AD:Bool) (AC:ByteArray) (BD:Bool) (BC:ByteArray) (BB:Bool) (BA:ByteArray) (B9:Bool) (B8:ByteArray) (B7:Bool) (B6:ByteArray) (B5:Bool) (B4:ByteArray) (B3:Bool) (B2:ByteArray) (AZ:Bool) (AY:ByteArray) (AX:Bool) (AW:ByteArray) (AV:Bool) (AU:ByteArray) (AT:Bool) (AS:ByteArray) (C3:Bool) (C1:ByteArray) (C0:Bool) (BZ:ByteArray) (BX:Bool) (BW:ByteArray) (BV:Bool) (BU:ByteArray) (BT:Bool) (BS:ByteArray) (k:(Bool)→Option R):Option R:=
 let t0:=CY A2 A3 A8 A7 A6 A9 AB AA AD AC
 bif t0 then
 let t1:=CZ A2 A3 A8 A7 A6 A9 AB AA AD AC
 bif t1 then
 let t2:=CY BD BC BB BA B9 B8 B7 B6 B5 B4
 bif t2 then
 let t3:=CZ BD BC BB BA B9 B8 B7 B6 B5 B4
 bif t3 then
 let t4:=CY B3 B2 AZ AY AX AW AV AU AT AS
 bif t4 then
 let t5:=CZ B3 B2 AZ AY AX AW AV AU AT AS
 bif t5 then
 let t6:=CY C3 C1 C0 BZ BX BW BV BU BT BS
 bif t6 then
 let t7:=CZ C3 C1 C0 BZ BX BW BV BU BT BS
 k (t7) else none else k (false) else none else k (false) else none else k (false) else none
theorem culetlaw28_few.run (CZ:TF5 (Bool)) (CY:TF5 Bool) (A2:Bool) (A3:ByteArray) (A8:Bool) (A7:ByteArray) (A6:Bool) (A9:ByteArray) (AB:Bool) (AA:ByteArray) (AD:Bool) (AC:ByteArray) (BD:Bool) (BC:ByteArray) (BB:Bool) (BA:ByteArray) (B9:Bool) (B8:ByteArray) (B7:Bool) (B6:ByteArray) (B5:Bool) (B4:ByteArray) (B3:Bool) (B2:ByteArray) (AZ:Bool) (AY:ByteArray) (AX:Bool) (AW:ByteArray) (AV:Bool) (AU:ByteArray) (AT:Bool) (AS:ByteArray) (C3:Bool) (C1:ByteArray) (C0:Bool) (BZ:ByteArray) (BX:Bool) (BW:ByteArray) (BV:Bool) (BU:ByteArray) (BT:Bool) (BS:ByteArray):xfn Tryz.prog ⟨[(50,culetref02_Few.sp CZ CY)],[],[]⟩ [] 60 Tryz.f11 [.agg ⟨.bool A2:: .string A3:: .bool A8:: .string A7:: .bool A6:: .string A9:: .bool AB:: .string AA:: .bool AD:: .string AC:: .bool BD:: .string BC:: .bool BB:: .string BA:: .bool B9:: .string B8:: .bool B7:: .string B6:: .bool B5:: .string B4:: .bool B3:: .string B2:: .bool AZ:: .string AY:: .bool AX:: .string AW:: .bool AV:: .string AU:: .bool AT:: .string AS:: .bool C3:: .string C1:: .bool C0:: .string BZ:: .bool BX:: .string BW:: .bool BV:: .string BU:: .bool BT:: .string BS::[]⟩] []=culetlaw28_few.K CZ CY A2 A3 A8 A7 A6 A9 AB AA AD AC BD BC BB BA B9 B8 B7 B6 B5 B4 B3 B2 AZ AY AX AW AV AU AT AS C3 C1 C0 BZ BX BW BV BU BT BS (fun r=>some (.bool r,[])):=by kernel_rfl
noncomputable def culetlaw28_few.o (A2:Bool) (A3:ByteArray) (A8:Bool) (A7:ByteArray) (A6:Bool) (A9:ByteArray) (AB:Bool) (AA:ByteArray) (AD:Bool) (AC:ByteArray) (BD:Bool) (BC:ByteArray) (BB:Bool) (BA:ByteArray) (B9:Bool) (B8:ByteArray) (B7:Bool) (B6:ByteArray) (B5:Bool) (B4:ByteArray) (B3:Bool) (B2:ByteArray) (AZ:Bool) (AY:ByteArray) (AX:Bool) (AW:ByteArray) (AV:Bool) (AU:ByteArray) (AT:Bool) (AS:ByteArray) (C3:Bool) (C1:ByteArray) (C0:Bool) (BZ:ByteArray) (BX:Bool) (BW:ByteArray) (BV:Bool) (BU:ByteArray) (BT:Bool) (BS:ByteArray):Option (Bool):=culetlaw28_few.K culetref02_Few culetref02_Few.pre A2 A3 A8 A7 A6 A9 AB AA AD AC BD BC BB BA B9 B8 B7 B6 B5 B4 B3 B2 AZ AY AX AW AV AU AT AS C3 C1 C0 BZ BX BW BV BU BT BS some
noncomputable def culetlaw28_few.pre (A2:Bool) (A3:ByteArray) (A8:Bool) (A7:ByteArray) (A6:Bool) (A9:ByteArray) (AB:Bool) (AA:ByteArray) (AD:Bool) (AC:ByteArray) (BD:Bool) (BC:ByteArray) (BB:Bool) (BA:ByteArray) (B9:Bool) (B8:ByteArray) (B7:Bool) (B6:ByteArray) (B5:Bool) (B4:ByteArray) (B3:Bool) (B2:ByteArray) (AZ:Bool) (AY:ByteArray) (AX:Bool) (AW:ByteArray) (AV:Bool) (AU:ByteArray) (AT:Bool) (AS:ByteArray) (C3:Bool) (C1:ByteArray) (C0:Bool) (BZ:ByteArray) (BX:Bool) (BW:ByteArray) (BV:Bool) (BU:ByteArray) (BT:Bool) (BS:ByteArray):Bool:=(culetlaw28_few.o A2 A3 A8 A7 A6 A9 AB AA AD AC BD BC BB BA B9 B8 B7 B6 B5 B4 B3 B2 AZ AY AX AW AV AU AT AS C3 C1 C0 BZ BX BW BV BU BT BS).isSome
noncomputable def culetlaw28_few (A2:Bool) (A3:ByteArray) (A8:Bool) (A7:ByteArray) (A6:Bool) (A9:ByteArray) (AB:Bool) (AA:ByteArray) (AD:Bool) (AC:ByteArray) (BD:Bool) (BC:ByteArray) (BB:Bool) (BA:ByteArray) (B9:Bool) (B8:ByteArray) (B7:Bool) (B6:ByteArray) (B5:Bool) (B4:ByteArray) (B3:Bool) (B2:ByteArray) (AZ:Bool) (AY:ByteArray) (AX:Bool) (AW:ByteArray) (AV:Bool) (AU:ByteArray) (AT:Bool) (AS:ByteArray) (C3:Bool) (C1:ByteArray) (C0:Bool) (BZ:ByteArray) (BX:Bool) (BW:ByteArray) (BV:Bool) (BU:ByteArray) (BT:Bool) (BS:ByteArray):Bool:=(culetlaw28_few.o A2 A3 A8 A7 A6 A9 AB AA AD AC BD BC BB BA B9 B8 B7 B6 B5 B4 B3 B2 AZ AY AX AW AV AU AT AS C3 C1 C0 BZ BX BW BV BU BT BS).getD default
theorem culetlaw28_few.nat {R:Type} (CZ:TF5 (Bool)) (CY:TF5 Bool) (A2:Bool) (A3:ByteArray) (A8:Bool) (A7:ByteArray) (A6:Bool) (A9:ByteArray) (AB:Bool) (AA:ByteArray) (AD:Bool) (AC:ByteArray) (BD:Bool) (BC:ByteArray) (BB:Bool) (BA:ByteArray) (B9:Bool) (B8:ByteArray) (B7:Bool) (B6:ByteArray) (B5:Bool) (B4:ByteArray) (B3:Bool) (B2:ByteArray) (AZ:Bool) (AY:ByteArray) (AX:Bool) (AW:ByteArray) (AV:Bool) (AU:ByteArray) (AT:Bool) (AS:ByteArray) (C3:Bool) (C1:ByteArray) (C0:Bool) (BZ:ByteArray) (BX:Bool) (BW:ByteArray) (BV:Bool) (BU:ByteArray) (BT:Bool) (BS:ByteArray) (k:(Bool)→Option R):culetlaw28_few.K CZ CY A2 A3 A8 A7 A6 A9 AB AA AD AC BD BC BB BA B9 B8 B7 B6 B5 B4 B3 B2 AZ AY AX AW AV AU AT AS C3 C1 C0 BZ BX BW BV BU BT BS k=(culetlaw28_few.K CZ CY A2 A3 A8 A7 A6 A9 AB AA AD AC BD BC BB BA B9 B8 B7 B6 B5 B4 B3 B2 AZ AY AX AW AV AU AT AS C3 C1 C0 BZ BX BW BV BU BT BS some).bind k:=by
 simp only [culetlaw28_few.K,bcond,Option.bind_some,Option.bind_none]
theorem culetlaw28_few.spec (n0:Bool) (s0:ByteArray) (n1:Bool) (s1:ByteArray) (n2:Bool) (s2:ByteArray) (n3:Bool) (s3:ByteArray) (n4:Bool) (s4:ByteArray) (n5:Bool) (s5:ByteArray) (n6:Bool) (s6:ByteArray) (n7:Bool) (s7:ByteArray) (n8:Bool) (s8:ByteArray) (n9:Bool) (s9:ByteArray) (n10:Bool) (s10:ByteArray) (n11:Bool) (s11:ByteArray) (n12:Bool) (s12:ByteArray) (n13:Bool) (s13:ByteArray) (n14:Bool) (s14:ByteArray) (n15:Bool) (s15:ByteArray) (n16:Bool) (s16:ByteArray) (n17:Bool) (s17:ByteArray) (n18:Bool) (s18:ByteArray) (n19:Bool) (s19:ByteArray) (z0:s0.size≤8589934592) (z1:s1.size≤8589934592) (z2:s2.size≤8589934592) (z3:s3.size≤8589934592) (z4:s4.size≤8589934592) (z5:s5.size≤8589934592) (z6:s6.size≤8589934592) (z7:s7.size≤8589934592) (z8:s8.size≤8589934592) (z9:s9.size≤8589934592) (z10:s10.size≤8589934592) (z11:s11.size≤8589934592) (z12:s12.size≤8589934592) (z13:s13.size≤8589934592) (z14:s14.size≤8589934592) (z15:s15.size≤8589934592) (z16:s16.size≤8589934592) (z17:s17.size≤8589934592) (z18:s18.size≤8589934592) (z19:s19.size≤8589934592):∃b,culetlaw28_few.o n0 s0 n1 s1 n2 s2 n3 s3 n4 s4 n5 s5 n6 s6 n7 s7 n8 s8 n9 s9 n10 s10 n11 s11 n12 s12 n13 s13 n14 s14 n15 s15 n16 s16 n17 s17 n18 s18 n19 s19=some b∧(b=true→∃x y z q:Q,(n0,s0,n1,s1,n2,s2,n3,s3,n4,s4)=C5 x∧(n5,s5,n6,s6,n7,s7,n8,s8,n9,s9)=C5 y∧(n10,s10,n11,s11,n12,s12,n13,s13,n14,s14)=C5 z∧(n15,s15,n16,s16,n17,s17,n18,s18,n19,s19)=C5 q∧x.ok=true∧y.ok=true∧z.ok=true∧q.ok=true∧x.Bd 2∧y.Bd 2∧z.Bd 2∧q.Bd 2):=by
 obtain ⟨b0,e0,f0⟩:=culetref02_Few.spec (n0:=n0) (n1:=n1) (n2:=n2) (n3:=n3) (n4:=n4) z0 z1 z2 z3 z4
 obtain ⟨b1,e1,f1⟩:=culetref02_Few.spec (n0:=n5) (n1:=n6) (n2:=n7) (n3:=n8) (n4:=n9) z5 z6 z7 z8 z9
 obtain ⟨b2,e2,f2⟩:=culetref02_Few.spec (n0:=n10) (n1:=n11) (n2:=n12) (n3:=n13) (n4:=n14) z10 z11 z12 z13 z14
 obtain ⟨b3,e3,f3⟩:=culetref02_Few.spec (n0:=n15) (n1:=n16) (n2:=n17) (n3:=n18) (n4:=n19) z15 z16 z17 z18 z19
 have fp:∀ {b:Bool} {o:Option Bool},o=some b→o.isSome=true∧o.getD default=b:=fun h=>by rw [h]; exact ⟨rfl,rfl⟩
 have p0:culetref02_Few.pre n0 s0 n1 s1 n2 s2 n3 s3 n4 s4=true:=(fp e0).1
 have v0:culetref02_Few n0 s0 n1 s1 n2 s2 n3 s3 n4 s4=b0:=(fp e0).2
 have p1:culetref02_Few.pre n5 s5 n6 s6 n7 s7 n8 s8 n9 s9=true:=(fp e1).1
 have v1:culetref02_Few n5 s5 n6 s6 n7 s7 n8 s8 n9 s9=b1:=(fp e1).2
 have p2:culetref02_Few.pre n10 s10 n11 s11 n12 s12 n13 s13 n14 s14=true:=(fp e2).1
 have v2:culetref02_Few n10 s10 n11 s11 n12 s12 n13 s13 n14 s14=b2:=(fp e2).2
 have p3:culetref02_Few.pre n15 s15 n16 s16 n17 s17 n18 s18 n19 s19=true:=(fp e3).1
 have v3:culetref02_Few n15 s15 n16 s16 n17 s17 n18 s18 n19 s19=b3:=(fp e3).2
 simp only [culetlaw28_few.o,culetlaw28_few.K,p0,p1,p2,p3,v0,v1,v2,v3,cond_true]
 cases b0 with
 |false=>exact ⟨false,rfl,fun h=>by cases h⟩
 |true=>
 cases b1 with
 |false=>exact ⟨false,rfl,fun h=>by cases h⟩
 |true=>
 cases b2 with
 |false=>exact ⟨false,rfl,fun h=>by cases h⟩
 |true=>
 cases b3 with
 |false=>exact ⟨false,rfl,fun h=>by cases h⟩
 |true=>
 obtain ⟨x,ex,ox,bx,_⟩:=f0 rfl
 obtain ⟨y,ey,oy,by',_⟩:=f1 rfl
 obtain ⟨z,ez,oz,bz,_⟩:=f2 rfl
 obtain ⟨q,eq,oq,bq,_⟩:=f3 rfl
 exact ⟨true,rfl,fun _=>⟨x,y,z,q,ex,ey,ez,eq,ox,oy,oz,oq,bx,by',bz,bq⟩⟩
theorem culetlaw28_few.ok:SOK Tryz.prog 11 (culetlaw28_few.sp culetlaw28_few culetlaw28_few.pre):=by
 refine sok_of (E:=⟨[(50,culetref02_Few.sp culetref02_Few culetref02_Few.pre)],[],[]⟩) (L:=[]) ⟨(specs_cons culetref02_Few.ok specs_nil),inl_nil,mixed_ok,lps_nil⟩ 60 Tryz.func11 (by decide) rfl no_loops fun vs bl v bl' h=> ?_
 unfold culetlaw28_few.sp at h
 split at h
 ·rename_i A2 A3 A8 A7 A6 A9 AB AA AD AC BD BC BB BA B9 B8 B7 B6 B5 B4 B3 B2 AZ AY AX AW AV AU AT AS C3 C1 C0 BZ BX BW BV BU BT BS
  simp only [Option.some.injEq,Prod.mk.injEq] at h
  obtain ⟨hp,rfl,rfl⟩:=h
  have hr:=culetlaw28_few.run culetref02_Few culetref02_Few.pre A2 A3 A8 A7 A6 A9 AB AA AD AC BD BC BB BA B9 B8 B7 B6 B5 B4 B3 B2 AZ AY AX AW AV AU AT AS C3 C1 C0 BZ BX BW BV BU BT BS
  rw [culetlaw28_few.nat] at hr
  obtain ⟨r,h2⟩:=Option.isSome_iff_exists.1 (hp:(culetlaw28_few.o A2 A3 A8 A7 A6 A9 AB AA AD AC BD BC BB BA B9 B8 B7 B6 B5 B4 B3 B2 AZ AY AX AW AV AU AT AS C3 C1 C0 BZ BX BW BV BU BT BS).isSome=true)
  have h3:culetlaw28_few A2 A3 A8 A7 A6 A9 AB AA AD AC BD BC BB BA B9 B8 B7 B6 B5 B4 B3 B2 AZ AY AX AW AV AU AT AS C3 C1 C0 BZ BX BW BV BU BT BS=r:=by unfold culetlaw28_few; rw [h2]; rfl
  have h4:culetlaw28_few.K culetref02_Few culetref02_Few.pre A2 A3 A8 A7 A6 A9 AB AA AD AC BD BC BB BA B9 B8 B7 B6 B5 B4 B3 B2 AZ AY AX AW AV AU AT AS C3 C1 C0 BZ BX BW BV BU BT BS some=some r:=h2
  rw [h4,Option.bind_some] at hr
  rw [h3]
  exact ⟨hr,by simp [okV,Nat.blt],clo_spec 8 _ (by kernel_rfl),told_blk (by kernel_rfl)⟩
 ·cases h
section
variable {R:Type} (BH:Int→(TY5)) (BG:Int→Bool) (a0:Int) (a1:Int) (a2:Int)
noncomputable def vector_Of.K (k:TY15→Option R):Option R:=
 let t0:=BG a0
 bif t0 then
 let t1:=BG a1
 bif t1 then
 let t2:=BG a2
 bif t2 then
 let t3:=BH a0
 let t4:=BH a1
 let t5:=BH a2
 k (t3.1,t3.2.1,t3.2.2.1,t3.2.2.2.1,t3.2.2.2.2.1,t3.2.2.2.2.2.1,t3.2.2.2.2.2.2.1,t3.2.2.2.2.2.2.2.1,t3.2.2.2.2.2.2.2.2.1,t3.2.2.2.2.2.2.2.2.2,t4.1,t4.2.1,t4.2.2.1,t4.2.2.2.1,t4.2.2.2.2.1,t4.2.2.2.2.2.1,t4.2.2.2.2.2.2.1,t4.2.2.2.2.2.2.2.1,t4.2.2.2.2.2.2.2.2.1,t4.2.2.2.2.2.2.2.2.2,t5.1,t5.2.1,t5.2.2.1,t5.2.2.2.1,t5.2.2.2.2.1,t5.2.2.2.2.2.1,t5.2.2.2.2.2.2.1,t5.2.2.2.2.2.2.2.1,t5.2.2.2.2.2.2.2.2.1,t5.2.2.2.2.2.2.2.2.2) else none else none else none
theorem vector_Of.run:xfn Tryz.prog ⟨[(114,field_Of.sp BH BG)],[],[]⟩ [] 60 Tryz.f156 [.int .i64 a0,.int .i64 a1,.int .i64 a2] []=vector_Of.K BH BG a0 a1 a2 (fun r=>some (.agg ⟨[.bool r.1,.string r.2.1,.bool r.2.2.1,.string r.2.2.2.1,.bool r.2.2.2.2.1,.string r.2.2.2.2.2.1,.bool r.2.2.2.2.2.2.1,.string r.2.2.2.2.2.2.2.1,.bool r.2.2.2.2.2.2.2.2.1,.string r.2.2.2.2.2.2.2.2.2.1,.bool r.2.2.2.2.2.2.2.2.2.2.1,.string r.2.2.2.2.2.2.2.2.2.2.2.1,.bool r.2.2.2.2.2.2.2.2.2.2.2.2.1,.string r.2.2.2.2.2.2.2.2.2.2.2.2.2.1,.bool r.2.2.2.2.2.2.2.2.2.2.2.2.2.2.1,.string r.2.2.2.2.2.2.2.2.2.2.2.2.2.2.2.1,.bool r.2.2.2.2.2.2.2.2.2.2.2.2.2.2.2.2.1,.string r.2.2.2.2.2.2.2.2.2.2.2.2.2.2.2.2.2.1,.bool r.2.2.2.2.2.2.2.2.2.2.2.2.2.2.2.2.2.2.1,.string r.2.2.2.2.2.2.2.2.2.2.2.2.2.2.2.2.2.2.2.1,.bool r.2.2.2.2.2.2.2.2.2.2.2.2.2.2.2.2.2.2.2.2.1,.string r.2.2.2.2.2.2.2.2.2.2.2.2.2.2.2.2.2.2.2.2.2.1,.bool r.2.2.2.2.2.2.2.2.2.2.2.2.2.2.2.2.2.2.2.2.2.2.1,.string r.2.2.2.2.2.2.2.2.2.2.2.2.2.2.2.2.2.2.2.2.2.2.2.1,.bool r.2.2.2.2.2.2.2.2.2.2.2.2.2.2.2.2.2.2.2.2.2.2.2.2.1,.string r.2.2.2.2.2.2.2.2.2.2.2.2.2.2.2.2.2.2.2.2.2.2.2.2.2.1,.bool r.2.2.2.2.2.2.2.2.2.2.2.2.2.2.2.2.2.2.2.2.2.2.2.2.2.2.1,.string r.2.2.2.2.2.2.2.2.2.2.2.2.2.2.2.2.2.2.2.2.2.2.2.2.2.2.2.1,.bool r.2.2.2.2.2.2.2.2.2.2.2.2.2.2.2.2.2.2.2.2.2.2.2.2.2.2.2.2.1,.string r.2.2.2.2.2.2.2.2.2.2.2.2.2.2.2.2.2.2.2.2.2.2.2.2.2.2.2.2.2]⟩,[])):=by kernel_rfl
noncomputable def vector_Of.o:Option (TY15):=vector_Of.K field_Of field_Of.pre a0 a1 a2 some
noncomputable def vector_Of.pre:Bool:=(vector_Of.o a0 a1 a2).isSome
noncomputable def vector_Of:TY15:=(vector_Of.o a0 a1 a2).getD default
theorem vector_Of.nat (k:TY15→Option R):vector_Of.K BH BG a0 a1 a2 k=(vector_Of.K BH BG a0 a1 a2 some).bind k:=by
 simp only [vector_Of.K,bcond,Option.bind_some,Option.bind_none]
end
theorem vector_Of.os:vector_Of.o 0 0 0=some ((dI (qof 0).c0).1,(dI (qof 0).c0).2,(dI (qof 0).c1).1,(dI (qof 0).c1).2,(dI (qof 0).c2).1,(dI (qof 0).c2).2,(dI (qof 0).c3).1,(dI (qof 0).c3).2,(dI (qof 0).d).1,(dI (qof 0).d).2,(dI (qof 0).c0).1,(dI (qof 0).c0).2,(dI (qof 0).c1).1,(dI (qof 0).c1).2,(dI (qof 0).c2).1,(dI (qof 0).c2).2,(dI (qof 0).c3).1,(dI (qof 0).c3).2,(dI (qof 0).d).1,(dI (qof 0).d).2,(dI (qof 0).c0).1,(dI (qof 0).c0).2,(dI (qof 0).c1).1,(dI (qof 0).c1).2,(dI (qof 0).c2).1,(dI (qof 0).c2).2,(dI (qof 0).c3).1,(dI (qof 0).c3).2,(dI (qof 0).d).1,(dI (qof 0).d).2):=by
 have p:=field_Of.ps (n:=0) (by decide) (by decide)
 have e:=field_Of.es (n:=0) (by decide) (by decide)
 simp only [vector_Of.o,vector_Of.K,p,e,cond_true]
 rfl
theorem vector_Of.ps:vector_Of.pre 0 0 0=true:=isSome_of vector_Of.os
theorem vector_Of.es:vector_Of 0 0 0=((dI (qof 0).c0).1,(dI (qof 0).c0).2,(dI (qof 0).c1).1,(dI (qof 0).c1).2,(dI (qof 0).c2).1,(dI (qof 0).c2).2,(dI (qof 0).c3).1,(dI (qof 0).c3).2,(dI (qof 0).d).1,(dI (qof 0).d).2,(dI (qof 0).c0).1,(dI (qof 0).c0).2,(dI (qof 0).c1).1,(dI (qof 0).c1).2,(dI (qof 0).c2).1,(dI (qof 0).c2).2,(dI (qof 0).c3).1,(dI (qof 0).c3).2,(dI (qof 0).d).1,(dI (qof 0).d).2,(dI (qof 0).c0).1,(dI (qof 0).c0).2,(dI (qof 0).c1).1,(dI (qof 0).c1).2,(dI (qof 0).c2).1,(dI (qof 0).c2).2,(dI (qof 0).c3).1,(dI (qof 0).c3).2,(dI (qof 0).d).1,(dI (qof 0).d).2):=getD_of vector_Of.os
theorem vector_Of.ok:SOK Tryz.prog 156 (vector_Of.sp vector_Of vector_Of.pre):=by
 refine sok_of (E:=⟨[(114,field_Of.sp field_Of field_Of.pre)],[],[]⟩) (L:=[]) ⟨(specs_cons field_Of.ok specs_nil),inl_nil,mixed_ok,lps_nil⟩ 60 Tryz.func156 (by decide) rfl no_loops fun vs bl v bl' h=> ?_
 unfold vector_Of.sp at h
 split at h
 ·rename_i a0 a1 a2
  simp only [Option.some.injEq,Prod.mk.injEq] at h
  obtain ⟨hp,rfl,rfl⟩:=h
  have hr:=vector_Of.run field_Of field_Of.pre a0 a1 a2
  rw [vector_Of.nat] at hr
  obtain ⟨r,h2⟩:=Option.isSome_iff_exists.1 (hp:(vector_Of.o a0 a1 a2).isSome=true)
  have h3:vector_Of a0 a1 a2=r:=by unfold vector_Of; rw [h2]; rfl
  have h4:vector_Of.K field_Of field_Of.pre a0 a1 a2 some=some r:=h2
  rw [h4,Option.bind_some] at hr
  rw [h3]
  exact ⟨hr,by simp [okV,Nat.blt],clo_spec 8 _ (by kernel_rfl),told_blk (by kernel_rfl)⟩
 ·cases h
section
variable {R:Type} (G1:Int→Int→Int→(TY15)) (FX:Int→Int→Int→Bool) (A2:Bool) (A3:ByteArray) (A8:Bool) (A7:ByteArray) (A6:Bool) (A9:ByteArray) (AB:Bool) (AA:ByteArray) (AD:Bool) (AC:ByteArray) (BD:Bool) (BC:ByteArray) (BB:Bool) (BA:ByteArray) (B9:Bool) (B8:ByteArray) (B7:Bool) (B6:ByteArray) (B5:Bool) (B4:ByteArray) (B3:Bool) (B2:ByteArray) (AZ:Bool) (AY:ByteArray) (AX:Bool) (AW:ByteArray) (AV:Bool) (AU:ByteArray) (AT:Bool) (AS:ByteArray)
noncomputable def vector_Zero.K (k:(Bool)→Option R):Option R:=
 let t0:=FX 0 0 0
 bif t0 then
 let t1:=G1 0 0 0
 k (A2==t1.1&&A3.toList==t1.2.1.toList&&(A8==t1.2.2.1&&A7.toList==t1.2.2.2.1.toList&&(A6==t1.2.2.2.2.1&&A9.toList==t1.2.2.2.2.2.1.toList&&(AB==t1.2.2.2.2.2.2.1&&AA.toList==t1.2.2.2.2.2.2.2.1.toList)))&&(AD==t1.2.2.2.2.2.2.2.2.1&&AC.toList==t1.2.2.2.2.2.2.2.2.2.1.toList)&&(BD==t1.2.2.2.2.2.2.2.2.2.2.1&&BC.toList==t1.2.2.2.2.2.2.2.2.2.2.2.1.toList&&(BB==t1.2.2.2.2.2.2.2.2.2.2.2.2.1&&BA.toList==t1.2.2.2.2.2.2.2.2.2.2.2.2.2.1.toList&&(B9==t1.2.2.2.2.2.2.2.2.2.2.2.2.2.2.1&&B8.toList==t1.2.2.2.2.2.2.2.2.2.2.2.2.2.2.2.1.toList&&(B7==t1.2.2.2.2.2.2.2.2.2.2.2.2.2.2.2.2.1&&B6.toList==t1.2.2.2.2.2.2.2.2.2.2.2.2.2.2.2.2.2.1.toList)))&&(B5==t1.2.2.2.2.2.2.2.2.2.2.2.2.2.2.2.2.2.2.1&&B4.toList==t1.2.2.2.2.2.2.2.2.2.2.2.2.2.2.2.2.2.2.2.1.toList)&&(B3==t1.2.2.2.2.2.2.2.2.2.2.2.2.2.2.2.2.2.2.2.2.1&&B2.toList==t1.2.2.2.2.2.2.2.2.2.2.2.2.2.2.2.2.2.2.2.2.2.1.toList&&(AZ==t1.2.2.2.2.2.2.2.2.2.2.2.2.2.2.2.2.2.2.2.2.2.2.1&&AY.toList==t1.2.2.2.2.2.2.2.2.2.2.2.2.2.2.2.2.2.2.2.2.2.2.2.1.toList&&(AX==t1.2.2.2.2.2.2.2.2.2.2.2.2.2.2.2.2.2.2.2.2.2.2.2.2.1&&AW.toList==t1.2.2.2.2.2.2.2.2.2.2.2.2.2.2.2.2.2.2.2.2.2.2.2.2.2.1.toList&&(AV==t1.2.2.2.2.2.2.2.2.2.2.2.2.2.2.2.2.2.2.2.2.2.2.2.2.2.2.1&&AU.toList==t1.2.2.2.2.2.2.2.2.2.2.2.2.2.2.2.2.2.2.2.2.2.2.2.2.2.2.2.1.toList)))&&(AT==t1.2.2.2.2.2.2.2.2.2.2.2.2.2.2.2.2.2.2.2.2.2.2.2.2.2.2.2.2.1&&AS.toList==t1.2.2.2.2.2.2.2.2.2.2.2.2.2.2.2.2.2.2.2.2.2.2.2.2.2.2.2.2.2.toList)))) else none
theorem vector_Zero.run:xfn Tryz.prog ⟨[(156,vector_Of.sp G1 FX)],[],[]⟩ [] 60 Tryz.f108 [.agg ⟨[.bool A2,.string A3,.bool A8,.string A7,.bool A6,.string A9,.bool AB,.string AA,.bool AD,.string AC,.bool BD,.string BC,.bool BB,.string BA,.bool B9,.string B8,.bool B7,.string B6,.bool B5,.string B4,.bool B3,.string B2,.bool AZ,.string AY,.bool AX,.string AW,.bool AV,.string AU,.bool AT,.string AS]⟩] []=vector_Zero.K G1 FX A2 A3 A8 A7 A6 A9 AB AA AD AC BD BC BB BA B9 B8 B7 B6 B5 B4 B3 B2 AZ AY AX AW AV AU AT AS (fun r=>some (.bool r,[])):=by kernel_rfl
noncomputable def vector_Zero.o:Option (Bool):=vector_Zero.K vector_Of vector_Of.pre A2 A3 A8 A7 A6 A9 AB AA AD AC BD BC BB BA B9 B8 B7 B6 B5 B4 B3 B2 AZ AY AX AW AV AU AT AS some
noncomputable def vector_Zero.pre:Bool:=(vector_Zero.o A2 A3 A8 A7 A6 A9 AB AA AD AC BD BC BB BA B9 B8 B7 B6 B5 B4 B3 B2 AZ AY AX AW AV AU AT AS).isSome
noncomputable def vector_Zero:Bool:=(vector_Zero.o A2 A3 A8 A7 A6 A9 AB AA AD AC BD BC BB BA B9 B8 B7 B6 B5 B4 B3 B2 AZ AY AX AW AV AU AT AS).getD default
theorem vector_Zero.nat (k:(Bool)→Option R):vector_Zero.K G1 FX A2 A3 A8 A7 A6 A9 AB AA AD AC BD BC BB BA B9 B8 B7 B6 B5 B4 B3 B2 AZ AY AX AW AV AU AT AS k=(vector_Zero.K G1 FX A2 A3 A8 A7 A6 A9 AB AA AD AC BD BC BB BA B9 B8 B7 B6 B5 B4 B3 B2 AZ AY AX AW AV AU AT AS some).bind k:=by
 simp only [vector_Zero.K,bcond,Option.bind_some,Option.bind_none]
theorem vector_Zero.os {x y z:Q} (ox:x.ok=true) (oy:y.ok=true) (oz:z.ok=true):vector_Zero.o (dI x.c0).1 (dI x.c0).2 (dI x.c1).1 (dI x.c1).2 (dI x.c2).1 (dI x.c2).2 (dI x.c3).1 (dI x.c3).2 (dI x.d).1 (dI x.d).2 (dI y.c0).1 (dI y.c0).2 (dI y.c1).1 (dI y.c1).2 (dI y.c2).1 (dI y.c2).2 (dI y.c3).1 (dI y.c3).2 (dI y.d).1 (dI y.d).2 (dI z.c0).1 (dI z.c0).2 (dI z.c1).1 (dI z.c1).2 (dI z.c2).1 (dI z.c2).2 (dI z.c3).1 (dI z.c3).2 (dI z.d).1 (dI z.d).2=some (x.nul&&(y.nul&&z.nul)):=by
 have e:∀ {w:Q},w.ok=true→(w.c0==0&&(w.c1==0&&(w.c2==0&&w.c3==0))&&w.d==1)=w.nul:=fun {w} ow=>by
  cases hn:w.nul with
  |true=>rw [nul_d ow hn]; rfl
  | false=>
   have:(w.c0==0&&(w.c1==0&&(w.c2==0&&w.c3==0)))=w.nul:=by unfold Q.nul; simp only [Bool.and_assoc]
   rw [this,hn]; rfl
 have z0:(qof 0).c0=0∧(qof 0).c1=0∧(qof 0).c2=0∧(qof 0).c3=0∧(qof 0).d=1:=⟨rfl,rfl,rfl,rfl,rfl⟩
 simp only [vector_Zero.o,vector_Zero.K,vector_Of.ps,vector_Of.es,cond_true,eq_dI,z0.1,z0.2.1,z0.2.2.1,z0.2.2.2.1,z0.2.2.2.2]
 rw [←e ox,←e oy,←e oz]
theorem vector_Zero.ps {x y z:Q} (ox:x.ok=true) (oy:y.ok=true) (oz:z.ok=true):vector_Zero.pre (dI x.c0).1 (dI x.c0).2 (dI x.c1).1 (dI x.c1).2 (dI x.c2).1 (dI x.c2).2 (dI x.c3).1 (dI x.c3).2 (dI x.d).1 (dI x.d).2 (dI y.c0).1 (dI y.c0).2 (dI y.c1).1 (dI y.c1).2 (dI y.c2).1 (dI y.c2).2 (dI y.c3).1 (dI y.c3).2 (dI y.d).1 (dI y.d).2 (dI z.c0).1 (dI z.c0).2 (dI z.c1).1 (dI z.c1).2 (dI z.c2).1 (dI z.c2).2 (dI z.c3).1 (dI z.c3).2 (dI z.d).1 (dI z.d).2=true:=isSome_of (vector_Zero.os ox oy oz)
theorem vector_Zero.es {x y z:Q} (ox:x.ok=true) (oy:y.ok=true) (oz:z.ok=true):vector_Zero (dI x.c0).1 (dI x.c0).2 (dI x.c1).1 (dI x.c1).2 (dI x.c2).1 (dI x.c2).2 (dI x.c3).1 (dI x.c3).2 (dI x.d).1 (dI x.d).2 (dI y.c0).1 (dI y.c0).2 (dI y.c1).1 (dI y.c1).2 (dI y.c2).1 (dI y.c2).2 (dI y.c3).1 (dI y.c3).2 (dI y.d).1 (dI y.d).2 (dI z.c0).1 (dI z.c0).2 (dI z.c1).1 (dI z.c1).2 (dI z.c2).1 (dI z.c2).2 (dI z.c3).1 (dI z.c3).2 (dI z.d).1 (dI z.d).2=(x.nul&&(y.nul&&z.nul)):=getD_of (vector_Zero.os ox oy oz)
end
theorem vector_Zero.ok:SOK Tryz.prog 108 (vector_Zero.sp vector_Zero vector_Zero.pre):=by
 refine sok_of (E:=⟨[(156,vector_Of.sp vector_Of vector_Of.pre)],[],[]⟩) (L:=[]) ⟨(specs_cons vector_Of.ok specs_nil),inl_nil,mixed_ok,lps_nil⟩ 60 Tryz.func108 (by decide) rfl no_loops fun vs bl v bl' h=> ?_
 unfold vector_Zero.sp at h
 split at h
 ·rename_i A2 A3 A8 A7 A6 A9 AB AA AD AC BD BC BB BA B9 B8 B7 B6 B5 B4 B3 B2 AZ AY AX AW AV AU AT AS
  simp only [Option.some.injEq,Prod.mk.injEq] at h
  obtain ⟨hp,rfl,rfl⟩:=h
  have hr:=vector_Zero.run vector_Of vector_Of.pre A2 A3 A8 A7 A6 A9 AB AA AD AC BD BC BB BA B9 B8 B7 B6 B5 B4 B3 B2 AZ AY AX AW AV AU AT AS
  rw [vector_Zero.nat] at hr
  obtain ⟨r,h2⟩:=Option.isSome_iff_exists.1 (hp:(vector_Zero.o A2 A3 A8 A7 A6 A9 AB AA AD AC BD BC BB BA B9 B8 B7 B6 B5 B4 B3 B2 AZ AY AX AW AV AU AT AS).isSome=true)
  have h3:vector_Zero A2 A3 A8 A7 A6 A9 AB AA AD AC BD BC BB BA B9 B8 B7 B6 B5 B4 B3 B2 AZ AY AX AW AV AU AT AS=r:=by unfold vector_Zero; rw [h2]; rfl
  have h4:vector_Zero.K vector_Of vector_Of.pre A2 A3 A8 A7 A6 A9 AB AA AD AC BD BC BB BA B9 B8 B7 B6 B5 B4 B3 B2 AZ AY AX AW AV AU AT AS some=some r:=h2
  rw [h4,Option.bind_some] at hr
  rw [h3]
  exact ⟨hr,by simp [okV,Nat.blt],clo_spec 8 _ (by kernel_rfl),told_blk (by kernel_rfl)⟩
 ·cases h
section
variable {R:Type} (CO:TF15 (Bool)) (CN:TF15 Bool) (FR:TF15 (Bool)) (FP:TF15 Bool) (BJ:TF5 (Bool)) (BI:TF5 Bool) (A2:Bool) (A3:ByteArray) (A8:Bool) (A7:ByteArray) (A6:Bool) (A9:ByteArray) (AB:Bool) (AA:ByteArray) (AD:Bool) (AC:ByteArray) (BD:Bool) (BC:ByteArray) (BB:Bool) (BA:ByteArray) (B9:Bool) (B8:ByteArray) (B7:Bool) (B6:ByteArray) (B5:Bool) (B4:ByteArray) (B3:Bool) (B2:ByteArray) (AZ:Bool) (AY:ByteArray) (AX:Bool) (AW:ByteArray) (AV:Bool) (AU:ByteArray) (AT:Bool) (AS:ByteArray) (C3:Bool) (C1:ByteArray) (C0:Bool) (BZ:ByteArray) (BX:Bool) (BW:ByteArray) (BV:Bool) (BU:ByteArray) (BT:Bool) (BS:ByteArray)
noncomputable def plane_Valid.K (k:(Bool)→Option R):Option R:=
 let t0:=CN A2 A3 A8 A7 A6 A9 AB AA AD AC BD BC BB BA B9 B8 B7 B6 B5 B4 B3 B2 AZ AY AX AW AV AU AT AS
 bif t0 then
 let t1:=CO A2 A3 A8 A7 A6 A9 AB AA AD AC BD BC BB BA B9 B8 B7 B6 B5 B4 B3 B2 AZ AY AX AW AV AU AT AS
 bif t1 then
 let t2:=FP A2 A3 A8 A7 A6 A9 AB AA AD AC BD BC BB BA B9 B8 B7 B6 B5 B4 B3 B2 AZ AY AX AW AV AU AT AS
 bif t2 then
 let t3:=FR A2 A3 A8 A7 A6 A9 AB AA AD AC BD BC BB BA B9 B8 B7 B6 B5 B4 B3 B2 AZ AY AX AW AV AU AT AS
 bif !t3 then
 let t4:=BI C3 C1 C0 BZ BX BW BV BU BT BS
 bif t4 then
 let t5:=BJ C3 C1 C0 BZ BX BW BV BU BT BS
 k (t5) else none else k (false) else none else k (false) else none
theorem plane_Valid.run:xfn Tryz.prog ⟨[(83,vector_Valid.sp CO CN),(108,vector_Zero.sp FR FP),(109,field_Valid.sp BJ BI)],[],[]⟩ [] 60 Tryz.f60 [.agg ⟨.bool A2:: .string A3:: .bool A8:: .string A7:: .bool A6:: .string A9:: .bool AB:: .string AA:: .bool AD:: .string AC:: .bool BD:: .string BC:: .bool BB:: .string BA:: .bool B9:: .string B8:: .bool B7:: .string B6:: .bool B5:: .string B4:: .bool B3:: .string B2:: .bool AZ:: .string AY:: .bool AX:: .string AW:: .bool AV:: .string AU:: .bool AT:: .string AS:: .bool C3:: .string C1:: .bool C0:: .string BZ:: .bool BX:: .string BW:: .bool BV:: .string BU:: .bool BT:: .string BS::[]⟩] []=plane_Valid.K CO CN FR FP BJ BI A2 A3 A8 A7 A6 A9 AB AA AD AC BD BC BB BA B9 B8 B7 B6 B5 B4 B3 B2 AZ AY AX AW AV AU AT AS C3 C1 C0 BZ BX BW BV BU BT BS (fun r=>some (.bool r,[])):=by kernel_rfl
noncomputable def plane_Valid.o:Option (Bool):=plane_Valid.K vector_Valid vector_Valid.pre vector_Zero vector_Zero.pre field_Valid field_Valid.pre A2 A3 A8 A7 A6 A9 AB AA AD AC BD BC BB BA B9 B8 B7 B6 B5 B4 B3 B2 AZ AY AX AW AV AU AT AS C3 C1 C0 BZ BX BW BV BU BT BS some
noncomputable def plane_Valid.pre:Bool:=(plane_Valid.o A2 A3 A8 A7 A6 A9 AB AA AD AC BD BC BB BA B9 B8 B7 B6 B5 B4 B3 B2 AZ AY AX AW AV AU AT AS C3 C1 C0 BZ BX BW BV BU BT BS).isSome
noncomputable def plane_Valid:Bool:=(plane_Valid.o A2 A3 A8 A7 A6 A9 AB AA AD AC BD BC BB BA B9 B8 B7 B6 B5 B4 B3 B2 AZ AY AX AW AV AU AT AS C3 C1 C0 BZ BX BW BV BU BT BS).getD default
theorem plane_Valid.nat (k:(Bool)→Option R):plane_Valid.K CO CN FR FP BJ BI A2 A3 A8 A7 A6 A9 AB AA AD AC BD BC BB BA B9 B8 B7 B6 B5 B4 B3 B2 AZ AY AX AW AV AU AT AS C3 C1 C0 BZ BX BW BV BU BT BS k=(plane_Valid.K CO CN FR FP BJ BI A2 A3 A8 A7 A6 A9 AB AA AD AC BD BC BB BA B9 B8 B7 B6 B5 B4 B3 B2 AZ AY AX AW AV AU AT AS C3 C1 C0 BZ BX BW BV BU BT BS some).bind k:=by
 simp only [plane_Valid.K,bcond,Option.bind_some,Option.bind_none]
end
theorem vector_Valid.ps {k:Nat} {x y z:Q} (hx:x.Bd k) (hy:y.Bd k) (hz:z.Bd k) (hk:k≤LIM):vector_Valid.pre (dI x.c0).1 (dI x.c0).2 (dI x.c1).1 (dI x.c1).2 (dI x.c2).1 (dI x.c2).2 (dI x.c3).1 (dI x.c3).2 (dI x.d).1 (dI x.d).2 (dI y.c0).1 (dI y.c0).2 (dI y.c1).1 (dI y.c1).2 (dI y.c2).1 (dI y.c2).2 (dI y.c3).1 (dI y.c3).2 (dI y.d).1 (dI y.d).2 (dI z.c0).1 (dI z.c0).2 (dI z.c1).1 (dI z.c1).2 (dI z.c2).1 (dI z.c2).2 (dI z.c3).1 (dI z.c3).2 (dI z.d).1 (dI z.d).2=true:=by
 simp only [vector_Valid.pre,field_Valid.ps hx hk,field_Valid.ps hy hk,field_Valid.ps hz hk,Bool.and_self]
theorem vector_Valid.es {k:Nat} {x y z:Q} (hx:x.Bd k) (hy:y.Bd k) (hz:z.Bd k) (hk:k≤LIM):vector_Valid (dI x.c0).1 (dI x.c0).2 (dI x.c1).1 (dI x.c1).2 (dI x.c2).1 (dI x.c2).2 (dI x.c3).1 (dI x.c3).2 (dI x.d).1 (dI x.d).2 (dI y.c0).1 (dI y.c0).2 (dI y.c1).1 (dI y.c1).2 (dI y.c2).1 (dI y.c2).2 (dI y.c3).1 (dI y.c3).2 (dI y.d).1 (dI y.d).2 (dI z.c0).1 (dI z.c0).2 (dI z.c1).1 (dI z.c1).2 (dI z.c2).1 (dI z.c2).2 (dI z.c3).1 (dI z.c3).2 (dI z.d).1 (dI z.d).2=(x.ok&&(y.ok&&z.ok)):=by
 simp only [vector_Valid,field_Valid.es hx hk,field_Valid.es hy hk,field_Valid.es hz hk]
theorem plane_Valid.os {k:Nat} {x y z q:Q} (hx:x.Bd k) (hy:y.Bd k) (hz:z.Bd k) (hq:q.Bd k) (hk:k≤LIM) (ox:x.ok=true) (oy:y.ok=true) (oz:z.ok=true) (oq:q.ok=true):plane_Valid.o (dI x.c0).1 (dI x.c0).2 (dI x.c1).1 (dI x.c1).2 (dI x.c2).1 (dI x.c2).2 (dI x.c3).1 (dI x.c3).2 (dI x.d).1 (dI x.d).2 (dI y.c0).1 (dI y.c0).2 (dI y.c1).1 (dI y.c1).2 (dI y.c2).1 (dI y.c2).2 (dI y.c3).1 (dI y.c3).2 (dI y.d).1 (dI y.d).2 (dI z.c0).1 (dI z.c0).2 (dI z.c1).1 (dI z.c1).2 (dI z.c2).1 (dI z.c2).2 (dI z.c3).1 (dI z.c3).2 (dI z.d).1 (dI z.d).2 (dI q.c0).1 (dI q.c0).2 (dI q.c1).1 (dI q.c1).2 (dI q.c2).1 (dI q.c2).2 (dI q.c3).1 (dI q.c3).2 (dI q.d).1 (dI q.d).2=some (!(x.nul&&(y.nul&&z.nul))):=by
 simp only [plane_Valid.o,plane_Valid.K,vector_Valid.ps hx hy hz hk,vector_Valid.es hx hy hz hk,vector_Zero.ps ox oy oz,vector_Zero.es ox oy oz,field_Valid.ps hq hk,field_Valid.es hq hk,ox,oy,oz,oq,Bool.and_self,cond_true]
 cases (x.nul&&(y.nul&&z.nul))<;>rfl
theorem plane_Valid.ps {k:Nat} {x y z q:Q} (hx:x.Bd k) (hy:y.Bd k) (hz:z.Bd k) (hq:q.Bd k) (hk:k≤LIM) (ox:x.ok=true) (oy:y.ok=true) (oz:z.ok=true) (oq:q.ok=true):plane_Valid.pre (dI x.c0).1 (dI x.c0).2 (dI x.c1).1 (dI x.c1).2 (dI x.c2).1 (dI x.c2).2 (dI x.c3).1 (dI x.c3).2 (dI x.d).1 (dI x.d).2 (dI y.c0).1 (dI y.c0).2 (dI y.c1).1 (dI y.c1).2 (dI y.c2).1 (dI y.c2).2 (dI y.c3).1 (dI y.c3).2 (dI y.d).1 (dI y.d).2 (dI z.c0).1 (dI z.c0).2 (dI z.c1).1 (dI z.c1).2 (dI z.c2).1 (dI z.c2).2 (dI z.c3).1 (dI z.c3).2 (dI z.d).1 (dI z.d).2 (dI q.c0).1 (dI q.c0).2 (dI q.c1).1 (dI q.c1).2 (dI q.c2).1 (dI q.c2).2 (dI q.c3).1 (dI q.c3).2 (dI q.d).1 (dI q.d).2=true:=isSome_of (plane_Valid.os hx hy hz hq hk ox oy oz oq)
theorem plane_Valid.es {k:Nat} {x y z q:Q} (hx:x.Bd k) (hy:y.Bd k) (hz:z.Bd k) (hq:q.Bd k) (hk:k≤LIM) (ox:x.ok=true) (oy:y.ok=true) (oz:z.ok=true) (oq:q.ok=true):plane_Valid (dI x.c0).1 (dI x.c0).2 (dI x.c1).1 (dI x.c1).2 (dI x.c2).1 (dI x.c2).2 (dI x.c3).1 (dI x.c3).2 (dI x.d).1 (dI x.d).2 (dI y.c0).1 (dI y.c0).2 (dI y.c1).1 (dI y.c1).2 (dI y.c2).1 (dI y.c2).2 (dI y.c3).1 (dI y.c3).2 (dI y.d).1 (dI y.d).2 (dI z.c0).1 (dI z.c0).2 (dI z.c1).1 (dI z.c1).2 (dI z.c2).1 (dI z.c2).2 (dI z.c3).1 (dI z.c3).2 (dI z.d).1 (dI z.d).2 (dI q.c0).1 (dI q.c0).2 (dI q.c1).1 (dI q.c1).2 (dI q.c2).1 (dI q.c2).2 (dI q.c3).1 (dI q.c3).2 (dI q.d).1 (dI q.d).2=(!(x.nul&&(y.nul&&z.nul))):=getD_of (plane_Valid.os hx hy hz hq hk ox oy oz oq)
theorem plane_Valid.ok:SOK Tryz.prog 60 (plane_Valid.sp plane_Valid plane_Valid.pre):=by
 refine sok_of (E:=⟨[(83,vector_Valid.sp vector_Valid vector_Valid.pre),(108,vector_Zero.sp vector_Zero vector_Zero.pre),(109,field_Valid.sp field_Valid field_Valid.pre)],[],[]⟩) (L:=[]) ⟨(specs_cons vector_Valid.ok (specs_cons vector_Zero.ok (specs_cons field_Valid.ok specs_nil))),inl_nil,mixed_ok,lps_nil⟩ 60 Tryz.func60 (by decide) rfl no_loops fun vs bl v bl' h=> ?_
 unfold plane_Valid.sp at h
 split at h
 ·rename_i A2 A3 A8 A7 A6 A9 AB AA AD AC BD BC BB BA B9 B8 B7 B6 B5 B4 B3 B2 AZ AY AX AW AV AU AT AS C3 C1 C0 BZ BX BW BV BU BT BS
  simp only [Option.some.injEq,Prod.mk.injEq] at h
  obtain ⟨hp,rfl,rfl⟩:=h
  have hr:=plane_Valid.run vector_Valid vector_Valid.pre vector_Zero vector_Zero.pre field_Valid field_Valid.pre A2 A3 A8 A7 A6 A9 AB AA AD AC BD BC BB BA B9 B8 B7 B6 B5 B4 B3 B2 AZ AY AX AW AV AU AT AS C3 C1 C0 BZ BX BW BV BU BT BS
  rw [plane_Valid.nat] at hr
  obtain ⟨r,h2⟩:=Option.isSome_iff_exists.1 (hp:(plane_Valid.o A2 A3 A8 A7 A6 A9 AB AA AD AC BD BC BB BA B9 B8 B7 B6 B5 B4 B3 B2 AZ AY AX AW AV AU AT AS C3 C1 C0 BZ BX BW BV BU BT BS).isSome=true)
  have h3:plane_Valid A2 A3 A8 A7 A6 A9 AB AA AD AC BD BC BB BA B9 B8 B7 B6 B5 B4 B3 B2 AZ AY AX AW AV AU AT AS C3 C1 C0 BZ BX BW BV BU BT BS=r:=by unfold plane_Valid; rw [h2]; rfl
  have h4:plane_Valid.K vector_Valid vector_Valid.pre vector_Zero vector_Zero.pre field_Valid field_Valid.pre A2 A3 A8 A7 A6 A9 AB AA AD AC BD BC BB BA B9 B8 B7 B6 B5 B4 B3 B2 AZ AY AX AW AV AU AT AS C3 C1 C0 BZ BX BW BV BU BT BS some=some r:=h2
  rw [h4,Option.bind_some] at hr
  rw [h3]
  exact ⟨hr,by simp [okV,Nat.blt],clo_spec 8 _ (by kernel_rfl),told_blk (by kernel_rfl)⟩
 ·cases h
section
variable {R:Type} (D4:TF10 (TY5)) (D3:TF10 Bool) (CO:TF15 (Bool)) (CN:TF15 Bool) (CM:TF10 (TY5)) (CL:TF10 Bool) (A2:Bool) (A3:ByteArray) (A8:Bool) (A7:ByteArray) (A6:Bool) (A9:ByteArray) (AB:Bool) (AA:ByteArray) (AD:Bool) (AC:ByteArray) (BD:Bool) (BC:ByteArray) (BB:Bool) (BA:ByteArray) (B9:Bool) (B8:ByteArray) (B7:Bool) (B6:ByteArray) (B5:Bool) (B4:ByteArray) (B3:Bool) (B2:ByteArray) (AZ:Bool) (AY:ByteArray) (AX:Bool) (AW:ByteArray) (AV:Bool) (AU:ByteArray) (AT:Bool) (AS:ByteArray) (A5:Bool) (A4:ByteArray) (AH:Bool) (AG:ByteArray) (AJ:Bool) (AI:ByteArray) (AL:Bool) (AK:ByteArray) (AF:Bool) (AE:ByteArray) (DX:Bool) (DW:ByteArray) (DV:Bool) (DU:ByteArray) (DT:Bool) (DS:ByteArray) (DR:Bool) (DQ:ByteArray) (DP:Bool) (DO:ByteArray) (DN:Bool) (DM:ByteArray) (DL:Bool) (DK:ByteArray) (DJ:Bool) (DI:ByteArray) (DH:Bool) (DG:ByteArray) (DF:Bool) (DE:ByteArray)
noncomputable def vector_Dot.K (k:TY5→Option R):Option R:=
 let t0:=CN A2 A3 A8 A7 A6 A9 AB AA AD AC BD BC BB BA B9 B8 B7 B6 B5 B4 B3 B2 AZ AY AX AW AV AU AT AS
 bif t0 then
 let t1:=CO A2 A3 A8 A7 A6 A9 AB AA AD AC BD BC BB BA B9 B8 B7 B6 B5 B4 B3 B2 AZ AY AX AW AV AU AT AS
 bif !t1 then
 let t2:=CL false {data:= #[]} false {data:= #[]} false {data:= #[]} false {data:= #[]} false {data:= #[]} false {data:= #[]} false {data:= #[]} false {data:= #[]} false {data:= #[]} false {data:= #[]}
 bif t2 then
 let t3:=CM false {data:= #[]} false {data:= #[]} false {data:= #[]} false {data:= #[]} false {data:= #[]} false {data:= #[]} false {data:= #[]} false {data:= #[]} false {data:= #[]} false {data:= #[]}
 let t4:=CL t3.1 t3.2.1 t3.2.2.1 t3.2.2.2.1 t3.2.2.2.2.1 t3.2.2.2.2.2.1 t3.2.2.2.2.2.2.1 t3.2.2.2.2.2.2.2.1 t3.2.2.2.2.2.2.2.2.1 t3.2.2.2.2.2.2.2.2.2 false {data:= #[]} false {data:= #[]} false {data:= #[]} false {data:= #[]} false {data:= #[]}
 bif t4 then
 let t5:=CM t3.1 t3.2.1 t3.2.2.1 t3.2.2.2.1 t3.2.2.2.2.1 t3.2.2.2.2.2.1 t3.2.2.2.2.2.2.1 t3.2.2.2.2.2.2.2.1 t3.2.2.2.2.2.2.2.2.1 t3.2.2.2.2.2.2.2.2.2 false {data:= #[]} false {data:= #[]} false {data:= #[]} false {data:= #[]} false {data:= #[]}
 k (t5.1,t5.2.1,t5.2.2.1,t5.2.2.2.1,t5.2.2.2.2.1,t5.2.2.2.2.2.1,t5.2.2.2.2.2.2.1,t5.2.2.2.2.2.2.2.1,t5.2.2.2.2.2.2.2.2.1,t5.2.2.2.2.2.2.2.2.2) else none else none else
 let t6:=CN A5 A4 AH AG AJ AI AL AK AF AE DX DW DV DU DT DS DR DQ DP DO DN DM DL DK DJ DI DH DG DF DE
 bif t6 then
 let t7:=CO A5 A4 AH AG AJ AI AL AK AF AE DX DW DV DU DT DS DR DQ DP DO DN DM DL DK DJ DI DH DG DF DE
 bif !t7 then
 let t8:=CL false {data:= #[]} false {data:= #[]} false {data:= #[]} false {data:= #[]} false {data:= #[]} false {data:= #[]} false {data:= #[]} false {data:= #[]} false {data:= #[]} false {data:= #[]}
 bif t8 then
 let t9:=CM false {data:= #[]} false {data:= #[]} false {data:= #[]} false {data:= #[]} false {data:= #[]} false {data:= #[]} false {data:= #[]} false {data:= #[]} false {data:= #[]} false {data:= #[]}
 let t10:=CL t9.1 t9.2.1 t9.2.2.1 t9.2.2.2.1 t9.2.2.2.2.1 t9.2.2.2.2.2.1 t9.2.2.2.2.2.2.1 t9.2.2.2.2.2.2.2.1 t9.2.2.2.2.2.2.2.2.1 t9.2.2.2.2.2.2.2.2.2 false {data:= #[]} false {data:= #[]} false {data:= #[]} false {data:= #[]} false {data:= #[]}
 bif t10 then
 let t11:=CM t9.1 t9.2.1 t9.2.2.1 t9.2.2.2.1 t9.2.2.2.2.1 t9.2.2.2.2.2.1 t9.2.2.2.2.2.2.1 t9.2.2.2.2.2.2.2.1 t9.2.2.2.2.2.2.2.2.1 t9.2.2.2.2.2.2.2.2.2 false {data:= #[]} false {data:= #[]} false {data:= #[]} false {data:= #[]} false {data:= #[]}
 k (t11.1,t11.2.1,t11.2.2.1,t11.2.2.2.1,t11.2.2.2.2.1,t11.2.2.2.2.2.1,t11.2.2.2.2.2.2.1,t11.2.2.2.2.2.2.2.1,t11.2.2.2.2.2.2.2.2.1,t11.2.2.2.2.2.2.2.2.2) else none else none else
 let t12:=D3 A2 A3 A8 A7 A6 A9 AB AA AD AC A5 A4 AH AG AJ AI AL AK AF AE
 bif t12 then
 let t13:=D3 BD BC BB BA B9 B8 B7 B6 B5 B4 DX DW DV DU DT DS DR DQ DP DO
 bif t13 then
 let t14:=D3 B3 B2 AZ AY AX AW AV AU AT AS DN DM DL DK DJ DI DH DG DF DE
 bif t14 then
 let t15:=D4 A2 A3 A8 A7 A6 A9 AB AA AD AC A5 A4 AH AG AJ AI AL AK AF AE
 let t16:=D4 BD BC BB BA B9 B8 B7 B6 B5 B4 DX DW DV DU DT DS DR DQ DP DO
 let t17:=CL t15.1 t15.2.1 t15.2.2.1 t15.2.2.2.1 t15.2.2.2.2.1 t15.2.2.2.2.2.1 t15.2.2.2.2.2.2.1 t15.2.2.2.2.2.2.2.1 t15.2.2.2.2.2.2.2.2.1 t15.2.2.2.2.2.2.2.2.2 t16.1 t16.2.1 t16.2.2.1 t16.2.2.2.1 t16.2.2.2.2.1 t16.2.2.2.2.2.1 t16.2.2.2.2.2.2.1 t16.2.2.2.2.2.2.2.1 t16.2.2.2.2.2.2.2.2.1 t16.2.2.2.2.2.2.2.2.2
 bif t17 then
 let t18:=CM t15.1 t15.2.1 t15.2.2.1 t15.2.2.2.1 t15.2.2.2.2.1 t15.2.2.2.2.2.1 t15.2.2.2.2.2.2.1 t15.2.2.2.2.2.2.2.1 t15.2.2.2.2.2.2.2.2.1 t15.2.2.2.2.2.2.2.2.2 t16.1 t16.2.1 t16.2.2.1 t16.2.2.2.1 t16.2.2.2.2.1 t16.2.2.2.2.2.1 t16.2.2.2.2.2.2.1 t16.2.2.2.2.2.2.2.1 t16.2.2.2.2.2.2.2.2.1 t16.2.2.2.2.2.2.2.2.2
 let t19:=D4 B3 B2 AZ AY AX AW AV AU AT AS DN DM DL DK DJ DI DH DG DF DE
 let t20:=CL t18.1 t18.2.1 t18.2.2.1 t18.2.2.2.1 t18.2.2.2.2.1 t18.2.2.2.2.2.1 t18.2.2.2.2.2.2.1 t18.2.2.2.2.2.2.2.1 t18.2.2.2.2.2.2.2.2.1 t18.2.2.2.2.2.2.2.2.2 t19.1 t19.2.1 t19.2.2.1 t19.2.2.2.1 t19.2.2.2.2.1 t19.2.2.2.2.2.1 t19.2.2.2.2.2.2.1 t19.2.2.2.2.2.2.2.1 t19.2.2.2.2.2.2.2.2.1 t19.2.2.2.2.2.2.2.2.2
 bif t20 then
 let t21:=CM t18.1 t18.2.1 t18.2.2.1 t18.2.2.2.1 t18.2.2.2.2.1 t18.2.2.2.2.2.1 t18.2.2.2.2.2.2.1 t18.2.2.2.2.2.2.2.1 t18.2.2.2.2.2.2.2.2.1 t18.2.2.2.2.2.2.2.2.2 t19.1 t19.2.1 t19.2.2.1 t19.2.2.2.1 t19.2.2.2.2.1 t19.2.2.2.2.2.1 t19.2.2.2.2.2.2.1 t19.2.2.2.2.2.2.2.1 t19.2.2.2.2.2.2.2.2.1 t19.2.2.2.2.2.2.2.2.2
 k (t21.1,t21.2.1,t21.2.2.1,t21.2.2.2.1,t21.2.2.2.2.1,t21.2.2.2.2.2.1,t21.2.2.2.2.2.2.1,t21.2.2.2.2.2.2.2.1,t21.2.2.2.2.2.2.2.2.1,t21.2.2.2.2.2.2.2.2.2) else none else none else none else none else none else none else none
theorem vector_Dot.run:xfn Tryz.prog ⟨[(110,field_Mul.sp D4 D3),(83,vector_Valid.sp CO CN),(112,field_Add.sp CM CL)],[(111,Tryz.f111)],[]⟩ [] 60 Tryz.f61 [.agg ⟨[.bool A2,.string A3,.bool A8,.string A7,.bool A6,.string A9,.bool AB,.string AA,.bool AD,.string AC,.bool BD,.string BC,.bool BB,.string BA,.bool B9,.string B8,.bool B7,.string B6,.bool B5,.string B4,.bool B3,.string B2,.bool AZ,.string AY,.bool AX,.string AW,.bool AV,.string AU,.bool AT,.string AS]⟩,.agg ⟨[.bool A5,.string A4,.bool AH,.string AG,.bool AJ,.string AI,.bool AL,.string AK,.bool AF,.string AE,.bool DX,.string DW,.bool DV,.string DU,.bool DT,.string DS,.bool DR,.string DQ,.bool DP,.string DO,.bool DN,.string DM,.bool DL,.string DK,.bool DJ,.string DI,.bool DH,.string DG,.bool DF,.string DE]⟩] []=vector_Dot.K D4 D3 CO CN CM CL A2 A3 A8 A7 A6 A9 AB AA AD AC BD BC BB BA B9 B8 B7 B6 B5 B4 B3 B2 AZ AY AX AW AV AU AT AS A5 A4 AH AG AJ AI AL AK AF AE DX DW DV DU DT DS DR DQ DP DO DN DM DL DK DJ DI DH DG DF DE (fun r=>some (.agg ⟨[.bool r.1,.string r.2.1,.bool r.2.2.1,.string r.2.2.2.1,.bool r.2.2.2.2.1,.string r.2.2.2.2.2.1,.bool r.2.2.2.2.2.2.1,.string r.2.2.2.2.2.2.2.1,.bool r.2.2.2.2.2.2.2.2.1,.string r.2.2.2.2.2.2.2.2.2]⟩,[])):=by kernel_rfl
noncomputable def vector_Dot.o:Option (TY5):=vector_Dot.K field_Mul field_Mul.pre vector_Valid vector_Valid.pre field_Add field_Add.pre A2 A3 A8 A7 A6 A9 AB AA AD AC BD BC BB BA B9 B8 B7 B6 B5 B4 B3 B2 AZ AY AX AW AV AU AT AS A5 A4 AH AG AJ AI AL AK AF AE DX DW DV DU DT DS DR DQ DP DO DN DM DL DK DJ DI DH DG DF DE some
noncomputable def vector_Dot.pre:Bool:=(vector_Dot.o A2 A3 A8 A7 A6 A9 AB AA AD AC BD BC BB BA B9 B8 B7 B6 B5 B4 B3 B2 AZ AY AX AW AV AU AT AS A5 A4 AH AG AJ AI AL AK AF AE DX DW DV DU DT DS DR DQ DP DO DN DM DL DK DJ DI DH DG DF DE).isSome
noncomputable def vector_Dot:TY5:=(vector_Dot.o A2 A3 A8 A7 A6 A9 AB AA AD AC BD BC BB BA B9 B8 B7 B6 B5 B4 B3 B2 AZ AY AX AW AV AU AT AS A5 A4 AH AG AJ AI AL AK AF AE DX DW DV DU DT DS DR DQ DP DO DN DM DL DK DJ DI DH DG DF DE).getD default
theorem vector_Dot.nat (k:TY5→Option R):vector_Dot.K D4 D3 CO CN CM CL A2 A3 A8 A7 A6 A9 AB AA AD AC BD BC BB BA B9 B8 B7 B6 B5 B4 B3 B2 AZ AY AX AW AV AU AT AS A5 A4 AH AG AJ AI AL AK AF AE DX DW DV DU DT DS DR DQ DP DO DN DM DL DK DJ DI DH DG DF DE k=(vector_Dot.K D4 D3 CO CN CM CL A2 A3 A8 A7 A6 A9 AB AA AD AC BD BC BB BA B9 B8 B7 B6 B5 B4 B3 B2 AZ AY AX AW AV AU AT AS A5 A4 AH AG AJ AI AL AK AF AE DX DW DV DU DT DS DR DQ DP DO DN DM DL DK DJ DI DH DG DF DE some).bind k:=by
 simp only [vector_Dot.K,bcond,Option.bind_some,Option.bind_none]
end
def qsq (x y z:Q):Q:=qadd (qadd (qmul x x) (qmul y y)) (qmul z z)
theorem qsq_ok {x y z:Q} (ox:x.ok=true) (oy:y.ok=true) (oz:z.ok=true):(qsq x y z).ok=true:=qadd_ok (qadd_ok (qmul_ok ox ox) (qmul_ok oy oy)) (qmul_ok oz oz)
theorem qsq_bd {k:Nat} {x y z:Q} (hx:x.Bd k) (hy:y.Bd k) (hz:z.Bd k) (ox:x.ok=true) (oy:y.ok=true) (oz:z.ok=true):(qsq x y z).Bd (6*k+17):=
 (qadd_bd (qadd_bd (qmul_bd hx hx ox ox) (qmul_bd hy hy oy oy) (qmul_ok ox ox) (qmul_ok oy oy)) (qmul_bd hz hz oz oz) (qadd_ok (qmul_ok ox ox) (qmul_ok oy oy)) (qmul_ok oz oz)).mono (by omega)
theorem vector_Dot.os {k:Nat} {x y z:Q} (hx:x.Bd k) (hy:y.Bd k) (hz:z.Bd k) (hk:6*k+20≤4000000) (ox:x.ok=true) (oy:y.ok=true) (oz:z.ok=true):vector_Dot.o (dI x.c0).1 (dI x.c0).2 (dI x.c1).1 (dI x.c1).2 (dI x.c2).1 (dI x.c2).2 (dI x.c3).1 (dI x.c3).2 (dI x.d).1 (dI x.d).2 (dI y.c0).1 (dI y.c0).2 (dI y.c1).1 (dI y.c1).2 (dI y.c2).1 (dI y.c2).2 (dI y.c3).1 (dI y.c3).2 (dI y.d).1 (dI y.d).2 (dI z.c0).1 (dI z.c0).2 (dI z.c1).1 (dI z.c1).2 (dI z.c2).1 (dI z.c2).2 (dI z.c3).1 (dI z.c3).2 (dI z.d).1 (dI z.d).2 (dI x.c0).1 (dI x.c0).2 (dI x.c1).1 (dI x.c1).2 (dI x.c2).1 (dI x.c2).2 (dI x.c3).1 (dI x.c3).2 (dI x.d).1 (dI x.d).2 (dI y.c0).1 (dI y.c0).2 (dI y.c1).1 (dI y.c1).2 (dI y.c2).1 (dI y.c2).2 (dI y.c3).1 (dI y.c3).2 (dI y.d).1 (dI y.d).2 (dI z.c0).1 (dI z.c0).2 (dI z.c1).1 (dI z.c1).2 (dI z.c2).1 (dI z.c2).2 (dI z.c3).1 (dI z.c3).2 (dI z.d).1 (dI z.d).2=some (C5 (qsq x y z)):=by
 have hL:k≤LIM:=by unfold LIM; omega
 have hP:k≤PRM:=by unfold PRM; omega
 have mp:=fun {w:Q} (hw:w.Bd k)=>field_Mul.ps hw hw hP hP
 have me:∀ {w:Q},w.Bd k→w.ok=true→field_Mul (dI w.c0).1 (dI w.c0).2 (dI w.c1).1 (dI w.c1).2 (dI w.c2).1 (dI w.c2).2 (dI w.c3).1 (dI w.c3).2 (dI w.d).1 (dI w.d).2 (dI w.c0).1 (dI w.c0).2 (dI w.c1).1 (dI w.c1).2 (dI w.c2).1 (dI w.c2).2 (dI w.c3).1 (dI w.c3).2 (dI w.d).1 (dI w.d).2=C5 (qmul w w):=fun hw ow=>by
  have:=field_Mul.es hw hw hP hP
  rw [ow] at this
  exact this
 have bx:=qmul_bd hx hx ox ox
 have by':=qmul_bd hy hy oy oy
 have bz:=qmul_bd hz hz oz oz
 have kx:=qmul_ok ox ox
 have ky:=qmul_ok oy oy
 have kz:=qmul_ok oz oz
 have a1:=field_Add.ps bx by' (by unfold PRM; omega) (by unfold PRM; omega)
 have a1':=field_Add.es bx by' (by unfold PRM; omega) (by unfold PRM; omega)
 rw [kx,ky] at a1'
 change _=C5 (qadd (qmul x x) (qmul y y)) at a1'
 have b1:=qadd_bd bx by' kx ky
 have a2:=field_Add.ps b1 bz (by unfold PRM; omega) (by unfold PRM; omega)
 have a2':=field_Add.es b1 bz (by unfold PRM; omega) (by unfold PRM; omega)
 rw [qadd_ok kx ky,kz] at a2'
 change _=C5 (qsq x y z) at a2'
 simp only [vector_Dot.o,vector_Dot.K,vector_Valid.ps hx hy hz hL,vector_Valid.es hx hy hz hL,ox,oy,oz,Bool.and_self,Bool.not_true,cond_true,cond_false,mp hx,mp hy,mp hz,me hx ox,me hy oy,me hz oz,C5,a1,a1',a2,a2']
theorem vector_Dot.ps {k:Nat} {x y z:Q} (hx:x.Bd k) (hy:y.Bd k) (hz:z.Bd k) (hk:6*k+20≤4000000) (ox:x.ok=true) (oy:y.ok=true) (oz:z.ok=true):vector_Dot.pre (dI x.c0).1 (dI x.c0).2 (dI x.c1).1 (dI x.c1).2 (dI x.c2).1 (dI x.c2).2 (dI x.c3).1 (dI x.c3).2 (dI x.d).1 (dI x.d).2 (dI y.c0).1 (dI y.c0).2 (dI y.c1).1 (dI y.c1).2 (dI y.c2).1 (dI y.c2).2 (dI y.c3).1 (dI y.c3).2 (dI y.d).1 (dI y.d).2 (dI z.c0).1 (dI z.c0).2 (dI z.c1).1 (dI z.c1).2 (dI z.c2).1 (dI z.c2).2 (dI z.c3).1 (dI z.c3).2 (dI z.d).1 (dI z.d).2 (dI x.c0).1 (dI x.c0).2 (dI x.c1).1 (dI x.c1).2 (dI x.c2).1 (dI x.c2).2 (dI x.c3).1 (dI x.c3).2 (dI x.d).1 (dI x.d).2 (dI y.c0).1 (dI y.c0).2 (dI y.c1).1 (dI y.c1).2 (dI y.c2).1 (dI y.c2).2 (dI y.c3).1 (dI y.c3).2 (dI y.d).1 (dI y.d).2 (dI z.c0).1 (dI z.c0).2 (dI z.c1).1 (dI z.c1).2 (dI z.c2).1 (dI z.c2).2 (dI z.c3).1 (dI z.c3).2 (dI z.d).1 (dI z.d).2=true:=isSome_of (vector_Dot.os hx hy hz hk ox oy oz)
theorem vector_Dot.es {k:Nat} {x y z:Q} (hx:x.Bd k) (hy:y.Bd k) (hz:z.Bd k) (hk:6*k+20≤4000000) (ox:x.ok=true) (oy:y.ok=true) (oz:z.ok=true):vector_Dot (dI x.c0).1 (dI x.c0).2 (dI x.c1).1 (dI x.c1).2 (dI x.c2).1 (dI x.c2).2 (dI x.c3).1 (dI x.c3).2 (dI x.d).1 (dI x.d).2 (dI y.c0).1 (dI y.c0).2 (dI y.c1).1 (dI y.c1).2 (dI y.c2).1 (dI y.c2).2 (dI y.c3).1 (dI y.c3).2 (dI y.d).1 (dI y.d).2 (dI z.c0).1 (dI z.c0).2 (dI z.c1).1 (dI z.c1).2 (dI z.c2).1 (dI z.c2).2 (dI z.c3).1 (dI z.c3).2 (dI z.d).1 (dI z.d).2 (dI x.c0).1 (dI x.c0).2 (dI x.c1).1 (dI x.c1).2 (dI x.c2).1 (dI x.c2).2 (dI x.c3).1 (dI x.c3).2 (dI x.d).1 (dI x.d).2 (dI y.c0).1 (dI y.c0).2 (dI y.c1).1 (dI y.c1).2 (dI y.c2).1 (dI y.c2).2 (dI y.c3).1 (dI y.c3).2 (dI y.d).1 (dI y.d).2 (dI z.c0).1 (dI z.c0).2 (dI z.c1).1 (dI z.c1).2 (dI z.c2).1 (dI z.c2).2 (dI z.c3).1 (dI z.c3).2 (dI z.d).1 (dI z.d).2=C5 (qsq x y z):=getD_of (vector_Dot.os hx hy hz hk ox oy oz)
theorem vector_Dot.ok:SOK Tryz.prog 61 (vector_Dot.sp vector_Dot vector_Dot.pre):=by
 refine sok_of (E:=⟨[(110,field_Mul.sp field_Mul field_Mul.pre),(83,vector_Valid.sp vector_Valid vector_Valid.pre),(112,field_Add.sp field_Add field_Add.pre)],[(111,Tryz.f111)],[]⟩) (L:=[]) ⟨(specs_cons field_Mul.ok (specs_cons vector_Valid.ok (specs_cons field_Add.ok specs_nil))),(inl_cons ⟨Tryz.func111,by decide,rfl⟩ inl_nil),mixed_ok,lps_nil⟩ 60 Tryz.func61 (by decide) rfl no_loops fun vs bl v bl' h=> ?_
 unfold vector_Dot.sp at h
 split at h
 ·rename_i A2 A3 A8 A7 A6 A9 AB AA AD AC BD BC BB BA B9 B8 B7 B6 B5 B4 B3 B2 AZ AY AX AW AV AU AT AS A5 A4 AH AG AJ AI AL AK AF AE DX DW DV DU DT DS DR DQ DP DO DN DM DL DK DJ DI DH DG DF DE
  simp only [Option.some.injEq,Prod.mk.injEq] at h
  obtain ⟨hp,rfl,rfl⟩:=h
  have hr:=vector_Dot.run field_Mul field_Mul.pre vector_Valid vector_Valid.pre field_Add field_Add.pre A2 A3 A8 A7 A6 A9 AB AA AD AC BD BC BB BA B9 B8 B7 B6 B5 B4 B3 B2 AZ AY AX AW AV AU AT AS A5 A4 AH AG AJ AI AL AK AF AE DX DW DV DU DT DS DR DQ DP DO DN DM DL DK DJ DI DH DG DF DE
  rw [vector_Dot.nat] at hr
  obtain ⟨r,h2⟩:=Option.isSome_iff_exists.1 (hp:(vector_Dot.o A2 A3 A8 A7 A6 A9 AB AA AD AC BD BC BB BA B9 B8 B7 B6 B5 B4 B3 B2 AZ AY AX AW AV AU AT AS A5 A4 AH AG AJ AI AL AK AF AE DX DW DV DU DT DS DR DQ DP DO DN DM DL DK DJ DI DH DG DF DE).isSome=true)
  have h3:vector_Dot A2 A3 A8 A7 A6 A9 AB AA AD AC BD BC BB BA B9 B8 B7 B6 B5 B4 B3 B2 AZ AY AX AW AV AU AT AS A5 A4 AH AG AJ AI AL AK AF AE DX DW DV DU DT DS DR DQ DP DO DN DM DL DK DJ DI DH DG DF DE=r:=by unfold vector_Dot; rw [h2]; rfl
  have h4:vector_Dot.K field_Mul field_Mul.pre vector_Valid vector_Valid.pre field_Add field_Add.pre A2 A3 A8 A7 A6 A9 AB AA AD AC BD BC BB BA B9 B8 B7 B6 B5 B4 B3 B2 AZ AY AX AW AV AU AT AS A5 A4 AH AG AJ AI AL AK AF AE DX DW DV DU DT DS DR DQ DP DO DN DM DL DK DJ DI DH DG DF DE some=some r:=h2
  rw [h4,Option.bind_some] at hr
  rw [h3]
  exact ⟨hr,by simp [okV,Nat.blt],clo_spec 8 _ (by kernel_rfl),told_blk (by kernel_rfl)⟩
 ·cases h
section
variable {R:Type} (s0_0:Int) (A5:Int) (A4:Int) (a2:Int)
def direction_calc_keep.K (k:Int×Int×Int→R):R:=
 bif s0_0==0 then k (A5,A4,a2) else k (A5,A4,s0_0)
theorem direction_calc_keep.run:xfn Tryz.prog ⟨[],[],[]⟩ [] 60 Tryz.f62 [.pointer (some ⟨0,0,none⟩),.agg ⟨[.int .i64 A5,.int .i64 A4]⟩,.int .i64 a2] [.cs [.int .i64 s0_0] 98]=direction_calc_keep.K s0_0 A5 A4 a2 (fun r=>some (.agg ⟨[.int .i64 r.1,.int .i64 r.2.1]⟩,[.cs [.int .i64 r.2.2] 98])):=by kernel_rfl
def direction_calc_keep:Int×Int×Int:=direction_calc_keep.K s0_0 A5 A4 a2 id
theorem direction_calc_keep.nat (k:Int×Int×Int→R):direction_calc_keep.K s0_0 A5 A4 a2 k=k (direction_calc_keep.K s0_0 A5 A4 a2 id):=by
 simp only [direction_calc_keep.K,acond k,id_eq]
theorem direction_calc_keep.eq (s a b e:Int):direction_calc_keep s a b e=(a,b,kp s e):=by
 simp only [direction_calc_keep,direction_calc_keep.K,id_eq,kp]
 cases s==0<;>rfl
end
theorem direction_calc_keep.ok:SOK Tryz.prog 62 (direction_calc_keep.sp direction_calc_keep):=by
 refine sok_of (E:=⟨[],[],[]⟩) (L:=[]) ⟨specs_nil,inl_nil,mixed_ok,lps_nil⟩ 60 Tryz.func62 (by decide) rfl no_loops fun vs bl v bl' h=> ?_
 unfold direction_calc_keep.sp at h
 split at h
 ·rename_i A5 A4 a2 s0_0
  simp only [Option.some.injEq,Prod.mk.injEq,true_and] at h
  obtain ⟨rfl,rfl⟩:=h
  refine ⟨?_,by simp [okV,Nat.blt],clo_spec 8 _ (by kernel_rfl),told_blk (by kernel_rfl)⟩
  refine (direction_calc_keep.run s0_0 A5 A4 a2).trans ?_
  refine (direction_calc_keep.nat s0_0 A5 A4 a2 _).trans ?_
  kernel_rfl
 ·cases h
section
variable {R:Type} (s0_0:Int) (A5:Int) (A4:Int) (AH:Int) (AG:Int) (AJ:Int) (AI:Int)
def direction_calc_box.K (k:Int×Int×Int×Int×Int×Int×Int×Int→R):R:=
 bif s0_0 !=0 then k (0,0,0,0,0,0,s0_0,s0_0) else k (A5,A4,AH,AG,AJ,AI,0,s0_0)
theorem direction_calc_box.run:xfn Tryz.prog ⟨[],[],[]⟩ [] 60 Tryz.f64 [.pointer (some ⟨0,0,none⟩),.agg ⟨[.int .i64 A5,.int .i64 A4,.int .i64 AH,.int .i64 AG,.int .i64 AJ,.int .i64 AI]⟩] [.cs [.int .i64 s0_0] 98]=direction_calc_box.K s0_0 A5 A4 AH AG AJ AI (fun r=>some (.tuple ⟨[.agg ⟨[.int .i64 r.1,.int .i64 r.2.1,.int .i64 r.2.2.1,.int .i64 r.2.2.2.1,.int .i64 r.2.2.2.2.1,.int .i64 r.2.2.2.2.2.1]⟩,.int .i64 r.2.2.2.2.2.2.1]⟩,[.cs [.int .i64 r.2.2.2.2.2.2.2] 98])):=by kernel_rfl
def direction_calc_box:Int×Int×Int×Int×Int×Int×Int×Int:=direction_calc_box.K s0_0 A5 A4 AH AG AJ AI id
theorem direction_calc_box.nat (k:Int×Int×Int×Int×Int×Int×Int×Int→R):direction_calc_box.K s0_0 A5 A4 AH AG AJ AI k=k (direction_calc_box.K s0_0 A5 A4 AH AG AJ AI id):=by
 simp only [direction_calc_box.K,acond k,id_eq]
end
theorem direction_calc_box.ok:SOK Tryz.prog 64 (direction_calc_box.sp direction_calc_box):=by
 refine sok_of (E:=⟨[],[],[]⟩) (L:=[]) ⟨specs_nil,inl_nil,mixed_ok,lps_nil⟩ 60 Tryz.func64 (by decide) rfl no_loops fun vs bl v bl' h=> ?_
 unfold direction_calc_box.sp at h
 split at h
 ·rename_i A5 A4 AH AG AJ AI s0_0
  simp only [Option.some.injEq,Prod.mk.injEq,true_and] at h
  obtain ⟨rfl,rfl⟩:=h
  refine ⟨?_,by simp [okV,Nat.blt],clo_spec 8 _ (by kernel_rfl),told_blk (by kernel_rfl)⟩
  refine (direction_calc_box.run s0_0 A5 A4 AH AG AJ AI).trans ?_
  refine (direction_calc_box.nat s0_0 A5 A4 AH AG AJ AI _).trans ?_
  kernel_rfl
 ·cases h
section
variable {R:Type} (FS:TF20 (Bool)) (FQ:TF20 Bool) (FV:TF30 (TY5)) (FT:TF30 Bool) (AQ:Int→Int→Int→Int→(Int×Int×Int)) (D9:TF10 (Int×Int×Int)) (D6:TF10 Bool) (CC:Int→Int→Int→Int→Int→Int→Int→(Int×Int×Int×Int×Int×Int×Int×Int)) (A2:Bool) (A3:ByteArray) (A8:Bool) (A7:ByteArray) (A6:Bool) (A9:ByteArray) (AB:Bool) (AA:ByteArray) (AD:Bool) (AC:ByteArray) (BD:Bool) (BC:ByteArray) (BB:Bool) (BA:ByteArray) (B9:Bool) (B8:ByteArray) (B7:Bool) (B6:ByteArray) (B5:Bool) (B4:ByteArray) (B3:Bool) (B2:ByteArray) (AZ:Bool) (AY:ByteArray) (AX:Bool) (AW:ByteArray) (AV:Bool) (AU:ByteArray) (AT:Bool) (AS:ByteArray) (C3:Bool) (C1:ByteArray) (C0:Bool) (BZ:ByteArray) (BX:Bool) (BW:ByteArray) (BV:Bool) (BU:ByteArray) (BT:Bool) (BS:ByteArray)
noncomputable def direction_Normal.K (k:Int×Int×Int×Int×Int×Int×Int→Option R):Option R:=
 let t0:=FQ A2 A3 A8 A7 A6 A9 AB AA AD AC BD BC BB BA B9 B8 B7 B6 B5 B4 B3 B2 AZ AY AX AW AV AU AT AS C3 C1 C0 BZ BX BW BV BU BT BS
 bif t0 then
 let t1:=FS A2 A3 A8 A7 A6 A9 AB AA AD AC BD BC BB BA B9 B8 B7 B6 B5 B4 B3 B2 AZ AY AX AW AV AU AT AS C3 C1 C0 BZ BX BW BV BU BT BS
 bif !t1 then k (0,0,0,0,0,0,1) else
 let t2:=FT A2 A3 A8 A7 A6 A9 AB AA AD AC BD BC BB BA B9 B8 B7 B6 B5 B4 B3 B2 AZ AY AX AW AV AU AT AS A2 A3 A8 A7 A6 A9 AB AA AD AC BD BC BB BA B9 B8 B7 B6 B5 B4 B3 B2 AZ AY AX AW AV AU AT AS
 bif t2 then
 let t3:=FV A2 A3 A8 A7 A6 A9 AB AA AD AC BD BC BB BA B9 B8 B7 B6 B5 B4 B3 B2 AZ AY AX AW AV AU AT AS A2 A3 A8 A7 A6 A9 AB AA AD AC BD BC BB BA B9 B8 B7 B6 B5 B4 B3 B2 AZ AY AX AW AV AU AT AS
 let t4:=D6 A2 A3 A8 A7 A6 A9 AB AA AD AC t3.1 t3.2.1 t3.2.2.1 t3.2.2.2.1 t3.2.2.2.2.1 t3.2.2.2.2.2.1 t3.2.2.2.2.2.2.1 t3.2.2.2.2.2.2.2.1 t3.2.2.2.2.2.2.2.2.1 t3.2.2.2.2.2.2.2.2.2
 bif t4 then
 let t5:=D6 BD BC BB BA B9 B8 B7 B6 B5 B4 t3.1 t3.2.1 t3.2.2.1 t3.2.2.2.1 t3.2.2.2.2.1 t3.2.2.2.2.2.1 t3.2.2.2.2.2.2.1 t3.2.2.2.2.2.2.2.1 t3.2.2.2.2.2.2.2.2.1 t3.2.2.2.2.2.2.2.2.2
 bif t5 then
 let t6:=D6 B3 B2 AZ AY AX AW AV AU AT AS t3.1 t3.2.1 t3.2.2.1 t3.2.2.2.1 t3.2.2.2.2.1 t3.2.2.2.2.2.1 t3.2.2.2.2.2.2.1 t3.2.2.2.2.2.2.2.1 t3.2.2.2.2.2.2.2.2.1 t3.2.2.2.2.2.2.2.2.2
 bif t6 then
 let t7:=D9 A2 A3 A8 A7 A6 A9 AB AA AD AC t3.1 t3.2.1 t3.2.2.1 t3.2.2.2.1 t3.2.2.2.2.1 t3.2.2.2.2.2.1 t3.2.2.2.2.2.2.1 t3.2.2.2.2.2.2.2.1 t3.2.2.2.2.2.2.2.2.1 t3.2.2.2.2.2.2.2.2.2
 let t8:=AQ 0 t7.1 t7.2.1 t7.2.2
 let t9:=D9 BD BC BB BA B9 B8 B7 B6 B5 B4 t3.1 t3.2.1 t3.2.2.1 t3.2.2.2.1 t3.2.2.2.2.1 t3.2.2.2.2.2.1 t3.2.2.2.2.2.2.1 t3.2.2.2.2.2.2.2.1 t3.2.2.2.2.2.2.2.2.1 t3.2.2.2.2.2.2.2.2.2
 let t10:=AQ t8.2.2 t9.1 t9.2.1 t9.2.2
 let t11:=D9 B3 B2 AZ AY AX AW AV AU AT AS t3.1 t3.2.1 t3.2.2.1 t3.2.2.2.1 t3.2.2.2.2.1 t3.2.2.2.2.2.1 t3.2.2.2.2.2.2.1 t3.2.2.2.2.2.2.2.1 t3.2.2.2.2.2.2.2.2.1 t3.2.2.2.2.2.2.2.2.2
 let t12:=AQ t10.2.2 t11.1 t11.2.1 t11.2.2
 let t13:=CC t12.2.2 t8.1 t8.2.1 t10.1 t10.2.1 t12.1 t12.2.1
 k (t13.1,t13.2.1,t13.2.2.1,t13.2.2.2.1,t13.2.2.2.2.1,t13.2.2.2.2.2.1,t13.2.2.2.2.2.2.1) else none else none else none else none else none
theorem direction_Normal.run:xfn Tryz.prog ⟨[(60,plane_Valid.sp FS FQ),(61,vector_Dot.sp FV FT),(62,direction_calc_keep.sp AQ),(63,direction_quotient.sp D9 D6),(64,direction_calc_box.sp CC)],[],[]⟩ [] 60 Tryz.f18 [.agg ⟨.bool A2:: .string A3:: .bool A8:: .string A7:: .bool A6:: .string A9:: .bool AB:: .string AA:: .bool AD:: .string AC:: .bool BD:: .string BC:: .bool BB:: .string BA:: .bool B9:: .string B8:: .bool B7:: .string B6:: .bool B5:: .string B4:: .bool B3:: .string B2:: .bool AZ:: .string AY:: .bool AX:: .string AW:: .bool AV:: .string AU:: .bool AT:: .string AS:: .bool C3:: .string C1:: .bool C0:: .string BZ:: .bool BX:: .string BW:: .bool BV:: .string BU:: .bool BT:: .string BS::[]⟩] []=direction_Normal.K FS FQ FV FT AQ D9 D6 CC A2 A3 A8 A7 A6 A9 AB AA AD AC BD BC BB BA B9 B8 B7 B6 B5 B4 B3 B2 AZ AY AX AW AV AU AT AS C3 C1 C0 BZ BX BW BV BU BT BS (fun r=>some (.tuple ⟨[.agg ⟨[.int .i64 r.1,.int .i64 r.2.1,.int .i64 r.2.2.1,.int .i64 r.2.2.2.1,.int .i64 r.2.2.2.2.1,.int .i64 r.2.2.2.2.2.1]⟩,.int .i64 r.2.2.2.2.2.2]⟩,[])):=by kernel_rfl
noncomputable def direction_Normal.o:Option (Int×Int×Int×Int×Int×Int×Int):=direction_Normal.K plane_Valid plane_Valid.pre vector_Dot vector_Dot.pre direction_calc_keep direction_quotient direction_quotient.pre direction_calc_box A2 A3 A8 A7 A6 A9 AB AA AD AC BD BC BB BA B9 B8 B7 B6 B5 B4 B3 B2 AZ AY AX AW AV AU AT AS C3 C1 C0 BZ BX BW BV BU BT BS some
noncomputable def direction_Normal.pre:Bool:=(direction_Normal.o A2 A3 A8 A7 A6 A9 AB AA AD AC BD BC BB BA B9 B8 B7 B6 B5 B4 B3 B2 AZ AY AX AW AV AU AT AS C3 C1 C0 BZ BX BW BV BU BT BS).isSome
noncomputable def direction_Normal:Int×Int×Int×Int×Int×Int×Int:=(direction_Normal.o A2 A3 A8 A7 A6 A9 AB AA AD AC BD BC BB BA B9 B8 B7 B6 B5 B4 B3 B2 AZ AY AX AW AV AU AT AS C3 C1 C0 BZ BX BW BV BU BT BS).getD default
theorem direction_Normal.nat (k:Int×Int×Int×Int×Int×Int×Int→Option R):direction_Normal.K FS FQ FV FT AQ D9 D6 CC A2 A3 A8 A7 A6 A9 AB AA AD AC BD BC BB BA B9 B8 B7 B6 B5 B4 B3 B2 AZ AY AX AW AV AU AT AS C3 C1 C0 BZ BX BW BV BU BT BS k=(direction_Normal.K FS FQ FV FT AQ D9 D6 CC A2 A3 A8 A7 A6 A9 AB AA AD AC BD BC BB BA B9 B8 B7 B6 B5 B4 B3 B2 AZ AY AX AW AV AU AT AS C3 C1 C0 BZ BX BW BV BU BT BS some).bind k:=by
 simp only [direction_Normal.K,bcond,Option.bind_some,Option.bind_none]
end
theorem qsq_rep {x y z:Q} (ox:x.ok=true) (oy:y.ok=true) (oz:z.ok=true):Rep (qsq x y z) (sgm (wv x*wv x) (wv y*wv y) (wv z*wv z) (zi x.d*zi x.d) (zi y.d*zi y.d) (zi z.d*zi z.d)) ((zi x.d*zi x.d)*(zi y.d*zi y.d)*(zi z.d*zi z.d)):=
 (((Rep.self ox).mul (Rep.self ox) ox ox).add ((Rep.self oy).mul (Rep.self oy) oy oy) (qmul_ok ox ox) (qmul_ok oy oy)).add ((Rep.self oz).mul (Rep.self oz) oz oz) (qadd_ok (qmul_ok ox ox) (qmul_ok oy oy)) (qmul_ok oz oz)
theorem wv_nz {x:Q} (h:x.nul=false):Sg.s (wv x)≠0:=fun h0=>by
 have:=sgZ _ h0
 have e0:x.c0=0:=congrArg (fun w:Z6=>w.p.a) this
 have e1:x.c1=0:=congrArg (fun w:Z6=>w.p.b) this
 have e2:x.c2=0:=congrArg (fun w:Z6=>w.q.a) this
 have e3:x.c3=0:=congrArg (fun w:Z6=>w.q.b) this
 simp [Q.nul,e0,e1,e2,e3] at h
theorem sgm_pos {x y z:Q} (ox:x.ok=true) (oy:y.ok=true) (oz:z.ok=true) (h:(x.nul&&(y.nul&&z.nul))=false):Sg.s (sgm (wv x*wv x) (wv y*wv y) (wv z*wv z) (zi x.d*zi x.d) (zi y.d*zi y.d) (zi z.d*zi z.d))=1:=by
 have dx:=zd_pos ox
 have dy:=zd_pos oy
 have dz:=zd_pos oz
 have m:∀ {a b:Z6},Sg.s a=1→Sg.s b=1→Sg.s (a*b)=1:=fun ha hb=>by rw [sgM,ha,hb]; rfl
 have n:∀ {a b:Z6},Sg.s b=1→Sg.s (a*b)=Sg.s a:=fun hb=>by rw [sgM,hb,Int.mul_one]
 have ex:=m (m dx dx) (m dy dy)
 have ey:=m (m dy dy) (m dz dz)
 have ez:=m (m dx dx) (m dz dz)
 rw [sgm_eq]
 have qx:=s_sq_nonneg (wv x)
 have qy:=s_sq_nonneg (wv y)
 have qz:=s_sq_nonneg (wv z)
 have h1:0≤Sg.s (wv x*wv x*(zi y.d*zi y.d*(zi z.d*zi z.d))+wv y*wv y*(zi x.d*zi x.d*(zi z.d*zi z.d))):=s_nonneg_add (by rw [n ey]; exact qx) (by rw [n ez]; exact qy)
 cases hx:x.nul with
 |false=>exact s_add_of h1 (by rw [n ex]; exact qz) (.inl (s_add_of (by rw [n ey]; exact qx) (by rw [n ez]; exact qy) (.inl (by rw [n ey]; exact s_sq (wv_nz hx)))))
 | true=>
  cases hy:y.nul with
  |false=>exact s_add_of h1 (by rw [n ex]; exact qz) (.inl (s_add_of (by rw [n ey]; exact qx) (by rw [n ez]; exact qy) (.inr (by rw [n ez]; exact s_sq (wv_nz hy)))))
  | true=>
   rw [hx,hy,Bool.true_and,Bool.true_and] at h
   exact s_add_of h1 (by rw [n ex]; exact qz) (.inr (by rw [n ex]; exact s_sq (wv_nz h)))
def sgb (s:Bool) (n h:Int):I2:=(bif s then -h else n,bif s then -n else h)
theorem normal_box {x y z:Q} (ox:x.ok=true) (oy:y.ok=true) (oz:z.ok=true) (hn:(x.nul&&(y.nul&&z.nul))=false):
  ∃ n0 h0 n1 h1 n2 h2:Int,(0≤n0∧n0≤h0∧h0≤16777216)∧(0≤n1∧n1≤h1∧h1≤16777216)∧(0≤n2∧n2≤h2∧h2≤16777216)∧n0*n0+n1*n1+n2*n2≤KK∧KK≤h0*h0+h1*h1+h2*h2∧
   dquot x (qsq x y z)=((sgb (decide (x.sg<0)) n0 h0).1,(sgb (decide (x.sg<0)) n0 h0).2,0)∧dquot y (qsq x y z)=((sgb (decide (y.sg<0)) n1 h1).1,(sgb (decide (y.sg<0)) n1 h1).2,0)∧dquot z (qsq x y z)=((sgb (decide (z.sg<0)) n2 h2).1,(sgb (decide (z.sg<0)) n2 h2).2,0):=by
 have rs:=qsq_rep ox oy oz
 have os:=qsq_ok ox oy oz
 have hσ:=sgm_pos ox oy oz hn
 have m:∀ {a b:Z6},Sg.s a=1→Sg.s b=1→Sg.s (a*b)=1:=fun ha hb=>by rw [sgM,ha,hb]; rfl
 have dx:=m (zd_pos ox) (zd_pos ox)
 have dy:=m (zd_pos oy) (zd_pos oy)
 have dz:=m (zd_pos oz) (zd_pos oz)
 have hτ:=m (m dx dy) dz
 have e:=sgm_eq (wv x*wv x) (wv y*wv y) (wv z*wv z) (zi x.d*zi x.d) (zi y.d*zi y.d) (zi z.d*zi z.d)
 have nn:∀ {a b:Z6},Sg.s b=1→0≤Sg.s (a*a*b):=fun {a b} hb=>by rw [sgM,hb,Int.mul_one]; exact s_sq_nonneg a
 have bx:=unit_bound (P:=wv x*wv x) (R:=zi x.d*zi x.d) (E:=zi y.d*zi y.d*(zi z.d*zi z.d)) (σ:=sgm (wv x*wv x) (wv y*wv y) (wv z*wv z) (zi x.d*zi x.d) (zi y.d*zi y.d) (zi z.d*zi z.d)) (τ:=zi x.d*zi x.d*(zi y.d*zi y.d)*(zi z.d*zi z.d)) (Q:=wv y*wv y*(zi x.d*zi x.d*(zi z.d*zi z.d))+wv z*wv z*(zi x.d*zi x.d*(zi y.d*zi y.d))) (by ac_rfl) (by rw [e]; ac_rfl) (m dy dz) hτ (s_nonneg_add (nn (m dx dz)) (nn (m dx dy)))
 have by':=unit_bound (P:=wv y*wv y) (R:=zi y.d*zi y.d) (E:=zi x.d*zi x.d*(zi z.d*zi z.d)) (σ:=sgm (wv x*wv x) (wv y*wv y) (wv z*wv z) (zi x.d*zi x.d) (zi y.d*zi y.d) (zi z.d*zi z.d)) (τ:=zi x.d*zi x.d*(zi y.d*zi y.d)*(zi z.d*zi z.d)) (Q:=wv x*wv x*(zi y.d*zi y.d*(zi z.d*zi z.d))+wv z*wv z*(zi x.d*zi x.d*(zi y.d*zi y.d))) (by ac_rfl) (by rw [e]; ac_rfl) (m dx dz) hτ (s_nonneg_add (nn (m dy dz)) (nn (m dx dy)))
 have bz:=unit_bound (P:=wv z*wv z) (R:=zi z.d*zi z.d) (E:=zi x.d*zi x.d*(zi y.d*zi y.d)) (σ:=sgm (wv x*wv x) (wv y*wv y) (wv z*wv z) (zi x.d*zi x.d) (zi y.d*zi y.d) (zi z.d*zi z.d)) (τ:=zi x.d*zi x.d*(zi y.d*zi y.d)*(zi z.d*zi z.d)) (Q:=wv x*wv x*(zi y.d*zi y.d*(zi z.d*zi z.d))+wv y*wv y*(zi x.d*zi x.d*(zi z.d*zi z.d))) (by ac_rfl) (by rw [e]; ac_rfl) (m dx dy) hτ (s_nonneg_add (nn (m dy dz)) (nn (m dx dz)))
 obtain ⟨n0,h0,a0,b0,c0,l0,u0,q0⟩:=dquot_unit (Rep.self ox) rs ox os hσ hτ bx
 obtain ⟨n1,h1,a1,b1,c1,l1,u1,q1⟩:=dquot_unit (Rep.self oy) rs oy os hσ hτ by'
 obtain ⟨n2,h2,a2,b2,c2,l2,u2,q2⟩:=dquot_unit (Rep.self oz) rs oz os hσ hτ bz
 exact ⟨n0,h0,n1,h1,n2,h2,⟨a0,b0,c0⟩,⟨a1,b1,c1⟩,⟨a2,b2,c2⟩,sum_le dx dy dz hσ l0 l1 l2,sum_ge dx dy dz hσ u0 u1 u2,q0,q1,q2⟩
theorem direction_Normal.os {k:Nat} {x y z q:Q} (hx:x.Bd k) (hy:y.Bd k) (hz:z.Bd k) (hq:q.Bd k) (hk:k≤1000) (ox:x.ok=true) (oy:y.ok=true) (oz:z.ok=true) (oq:q.ok=true):
  direction_Normal.o (dI x.c0).1 (dI x.c0).2 (dI x.c1).1 (dI x.c1).2 (dI x.c2).1 (dI x.c2).2 (dI x.c3).1 (dI x.c3).2 (dI x.d).1 (dI x.d).2 (dI y.c0).1 (dI y.c0).2 (dI y.c1).1 (dI y.c1).2 (dI y.c2).1 (dI y.c2).2 (dI y.c3).1 (dI y.c3).2 (dI y.d).1 (dI y.d).2 (dI z.c0).1 (dI z.c0).2 (dI z.c1).1 (dI z.c1).2 (dI z.c2).1 (dI z.c2).2 (dI z.c3).1 (dI z.c3).2 (dI z.d).1 (dI z.d).2 (dI q.c0).1 (dI q.c0).2 (dI q.c1).1 (dI q.c1).2 (dI q.c2).1 (dI q.c2).2 (dI q.c3).1 (dI q.c3).2 (dI q.d).1 (dI q.d).2=some (bif x.nul&&(y.nul&&z.nul) then (0,0,0,0,0,0,1) else ((dquot x (qsq x y z)).1,(dquot x (qsq x y z)).2.1,(dquot y (qsq x y z)).1,(dquot y (qsq x y z)).2.1,(dquot z (qsq x y z)).1,(dquot z (qsq x y z)).2.1,0)):=by
 have hL:k≤LIM:=by unfold LIM; omega
 have sb:=qsq_bd hx hy hz ox oy oz
 have hb:∀ {w:Q},w.Bd k→4*k+14*(6*k+17)+200≤PRM:=fun _=>by unfold PRM; omega
 have qp:=fun {w:Q} (hw:w.Bd k)=>direction_quotient.ps hw sb (by omega) (hb hw)
 have qe:=fun {w:Q} (hw:w.Bd k)=>direction_quotient.es hw sb (by omega) (hb hw)
 simp only [direction_Normal.o,direction_Normal.K,plane_Valid.ps hx hy hz hq hL ox oy oz oq,plane_Valid.es hx hy hz hq hL ox oy oz oq,cond_true]
 cases hn:(x.nul&&(y.nul&&z.nul)) with
 |true=>rfl
 | false=>
  obtain ⟨n0,h0,n1,h1,n2,h2,_,_,_,_,_,q0,q1,q2⟩:=normal_box ox oy oz hn
  simp only [Bool.not_false,Bool.not_true,cond_true,cond_false,vector_Dot.ps hx hy hz (by omega) ox oy oz,vector_Dot.es hx hy hz (by omega) ox oy oz,C5,qp hx,qp hy,qp hz,qe hx,qe hy,qe hz,direction_calc_keep.eq,q0,q1,q2,kp0,direction_calc_box,direction_calc_box.K,id_eq,bne_self_eq_false]
theorem direction_Normal.ps {k:Nat} {x y z q:Q} (hx:x.Bd k) (hy:y.Bd k) (hz:z.Bd k) (hq:q.Bd k) (hk:k≤1000) (ox:x.ok=true) (oy:y.ok=true) (oz:z.ok=true) (oq:q.ok=true):direction_Normal.pre (dI x.c0).1 (dI x.c0).2 (dI x.c1).1 (dI x.c1).2 (dI x.c2).1 (dI x.c2).2 (dI x.c3).1 (dI x.c3).2 (dI x.d).1 (dI x.d).2 (dI y.c0).1 (dI y.c0).2 (dI y.c1).1 (dI y.c1).2 (dI y.c2).1 (dI y.c2).2 (dI y.c3).1 (dI y.c3).2 (dI y.d).1 (dI y.d).2 (dI z.c0).1 (dI z.c0).2 (dI z.c1).1 (dI z.c1).2 (dI z.c2).1 (dI z.c2).2 (dI z.c3).1 (dI z.c3).2 (dI z.d).1 (dI z.d).2 (dI q.c0).1 (dI q.c0).2 (dI q.c1).1 (dI q.c1).2 (dI q.c2).1 (dI q.c2).2 (dI q.c3).1 (dI q.c3).2 (dI q.d).1 (dI q.d).2=true:=isSome_of (direction_Normal.os hx hy hz hq hk ox oy oz oq)
theorem direction_Normal.es {k:Nat} {x y z q:Q} (hx:x.Bd k) (hy:y.Bd k) (hz:z.Bd k) (hq:q.Bd k) (hk:k≤1000) (ox:x.ok=true) (oy:y.ok=true) (oz:z.ok=true) (oq:q.ok=true):
 direction_Normal (dI x.c0).1 (dI x.c0).2 (dI x.c1).1 (dI x.c1).2 (dI x.c2).1 (dI x.c2).2 (dI x.c3).1 (dI x.c3).2 (dI x.d).1 (dI x.d).2 (dI y.c0).1 (dI y.c0).2 (dI y.c1).1 (dI y.c1).2 (dI y.c2).1 (dI y.c2).2 (dI y.c3).1 (dI y.c3).2 (dI y.d).1 (dI y.d).2 (dI z.c0).1 (dI z.c0).2 (dI z.c1).1 (dI z.c1).2 (dI z.c2).1 (dI z.c2).2 (dI z.c3).1 (dI z.c3).2 (dI z.d).1 (dI z.d).2 (dI q.c0).1 (dI q.c0).2 (dI q.c1).1 (dI q.c1).2 (dI q.c2).1 (dI q.c2).2 (dI q.c3).1 (dI q.c3).2 (dI q.d).1 (dI q.d).2=(bif x.nul&&(y.nul&&z.nul) then (0,0,0,0,0,0,1) else ((dquot x (qsq x y z)).1,(dquot x (qsq x y z)).2.1,(dquot y (qsq x y z)).1,(dquot y (qsq x y z)).2.1,(dquot z (qsq x y z)).1,(dquot z (qsq x y z)).2.1,0)):=getD_of (direction_Normal.os hx hy hz hq hk ox oy oz oq)
theorem direction_Normal.ok:SOK Tryz.prog 18 (direction_Normal.sp direction_Normal direction_Normal.pre):=by
 refine sok_of (E:=⟨[(60,plane_Valid.sp plane_Valid plane_Valid.pre),(61,vector_Dot.sp vector_Dot vector_Dot.pre),(62,direction_calc_keep.sp direction_calc_keep),(63,direction_quotient.sp direction_quotient direction_quotient.pre),(64,direction_calc_box.sp direction_calc_box)],[],[]⟩) (L:=[]) ⟨(specs_cons plane_Valid.ok (specs_cons vector_Dot.ok (specs_cons direction_calc_keep.ok (specs_cons direction_quotient.ok (specs_cons direction_calc_box.ok specs_nil))))),inl_nil,mixed_ok,lps_nil⟩ 60 Tryz.func18 (by decide) rfl no_loops fun vs bl v bl' h=> ?_
 unfold direction_Normal.sp at h
 split at h
 ·rename_i A2 A3 A8 A7 A6 A9 AB AA AD AC BD BC BB BA B9 B8 B7 B6 B5 B4 B3 B2 AZ AY AX AW AV AU AT AS C3 C1 C0 BZ BX BW BV BU BT BS
  simp only [Option.some.injEq,Prod.mk.injEq] at h
  obtain ⟨hp,rfl,rfl⟩:=h
  have hr:=direction_Normal.run plane_Valid plane_Valid.pre vector_Dot vector_Dot.pre direction_calc_keep direction_quotient direction_quotient.pre direction_calc_box A2 A3 A8 A7 A6 A9 AB AA AD AC BD BC BB BA B9 B8 B7 B6 B5 B4 B3 B2 AZ AY AX AW AV AU AT AS C3 C1 C0 BZ BX BW BV BU BT BS
  rw [direction_Normal.nat] at hr
  obtain ⟨r,h2⟩:=Option.isSome_iff_exists.1 (hp:(direction_Normal.o A2 A3 A8 A7 A6 A9 AB AA AD AC BD BC BB BA B9 B8 B7 B6 B5 B4 B3 B2 AZ AY AX AW AV AU AT AS C3 C1 C0 BZ BX BW BV BU BT BS).isSome=true)
  have h3:direction_Normal A2 A3 A8 A7 A6 A9 AB AA AD AC BD BC BB BA B9 B8 B7 B6 B5 B4 B3 B2 AZ AY AX AW AV AU AT AS C3 C1 C0 BZ BX BW BV BU BT BS=r:=by unfold direction_Normal; rw [h2]; rfl
  have h4:direction_Normal.K plane_Valid plane_Valid.pre vector_Dot vector_Dot.pre direction_calc_keep direction_quotient direction_quotient.pre direction_calc_box A2 A3 A8 A7 A6 A9 AB AA AD AC BD BC BB BA B9 B8 B7 B6 B5 B4 B3 B2 AZ AY AX AW AV AU AT AS C3 C1 C0 BZ BX BW BV BU BT BS some=some r:=h2
  rw [h4,Option.bind_some] at hr
  rw [h3]
  exact ⟨hr,by simp [okV,Nat.blt],clo_spec 8 _ (by kernel_rfl),told_blk (by kernel_rfl)⟩
 ·cases h
end Go.Proofs.YtpejalpgficopaaGreatDoor.G
end
