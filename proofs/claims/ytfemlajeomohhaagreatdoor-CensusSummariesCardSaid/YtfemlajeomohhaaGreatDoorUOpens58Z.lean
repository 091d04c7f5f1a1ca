/- A part of the claim: see its last text. -/
import Derived.Test.YtfemlajeomohhaaGreatDoorUOpens14Z
import Derived.Test.YtfemlajeomohhaaGreatDoorUK08

set_option maxRecDepth 100000
set_option maxHeartbeats 16000000
namespace Go.Proofs.YtfemlajeomohhaaGreatDoor
open Go Go.Proofs Go.RowKit Go.Joins Go.ChangeShapes Go.WideShapes Go.Deep
section
variable {H:Type} {enc:TypeId×Value→H} {P:Program} {w:World} {held:Bool}
theorem NJ {base:Nat} {spare:Nat→Bool} {fs:Array Field} {e:TypeId} {n:Nat} {cs:List Value} {y:DataW H×List MemPlace} (he:P.underlying e=some (.struct fs))
    (h:DataW.trod enc P w base spare held n e cs=some y):∀ (j:Nat) (f:Field),fs[j]? = some f→∃ (n':Nat) (y':DataW H×List MemPlace),DataW.trod enc P w base spare held n' f.type ((cs.drop f.offset).take (P.cellsOf f.type))=some y':=by
 intro j f hj
 obtain⟨ys,n',_,_,_,hyl,hf⟩:=DataW.trod_struct he h
 have hjl:j<fs.size:=(Array.getElem?_eq_some_iff.1 hj).1
 exact⟨_,_,(hf j f hj).trans (List.getElem?_eq_getElem (by omega))⟩
theorem Kb:Tryz.prog.cellsOf 3=1:=by kernel_rfl
theorem Ui:Tryz.prog.cellsOf 4=1:=by kernel_rfl
theorem VV:Tryz.prog.cellsOf 78=4:=by kernel_rfl
theorem Sw:Tryz.prog.cellsOf 81=3:=by kernel_rfl
theorem Su:Tryz.prog.cellsOf 83=3:=by kernel_rfl
theorem Sv:Tryz.prog.cellsOf 75=5:=by kernel_rfl
theorem TG (n:Nat) (cs:List Value) (y:DataW H×List MemPlace) (hl:cs.length=22) (h:DataW.trod enc Tryz.prog w 0 (fun _=>true) held n 85 cs=some y):∃ x:EvM,BD.R w w.heap.size x cs∧True:=by
 match cs,hl with
 | [c0,c1,c2,c3,c4,c5,c6,c7,c8,c9,c10,c11,c12,c13,c14,c15,c16,c17,c18,c19,c20,c21],hl =>
   have g:=NJ Tryz.underlying85 h
   obtain⟨_,_,t0⟩:=g 0 _ rfl
   simp[Kb] at t0
   obtain⟨_,_,t1⟩:=g 1 _ rfl
   simp[Kb] at t1
   obtain⟨_,_,t2⟩:=g 2 _ rfl
   simp[Kb] at t2
   obtain⟨_,_,t3⟩:=g 3 _ rfl
   simp[Kb] at t3
   obtain⟨_,_,t4⟩:=g 4 _ rfl
   simp[Kb] at t4
   obtain⟨_,_,t5⟩:=g 5 _ rfl
   simp[VV] at t5
   obtain⟨_,_,t6⟩:=g 6 _ rfl
   simp[Sw] at t6
   obtain⟨_,_,t7⟩:=g 7 _ rfl
   simp[Su] at t7
   obtain⟨_,_,t8⟩:=g 8 _ rfl
   simp[Sv] at t8
   obtain⟨_,_,t9⟩:=g 9 _ rfl
   simp[Ui] at t9
   obtain⟨_,_,t10⟩:=g 10 _ rfl
   simp[Kb] at t10
   have t0:DataW.trod enc Tryz.prog w 0 (fun _=>true) held _ 3 [c0]=some _:=t0
   have t1:DataW.trod enc Tryz.prog w 0 (fun _=>true) held _ 3 [c1]=some _:=t1
   have t2:DataW.trod enc Tryz.prog w 0 (fun _=>true) held _ 3 [c2]=some _:=t2
   have t3:DataW.trod enc Tryz.prog w 0 (fun _=>true) held _ 3 [c3]=some _:=t3
   have t4:DataW.trod enc Tryz.prog w 0 (fun _=>true) held _ 3 [c4]=some _:=t4
   have t5:DataW.trod enc Tryz.prog w 0 (fun _=>true) held _ 78 [c5,c6,c7,c8]=some _:=t5
   have t6:DataW.trod enc Tryz.prog w 0 (fun _=>true) held _ 81 [c9,c10,c11]=some _:=t6
   have t7:DataW.trod enc Tryz.prog w 0 (fun _=>true) held _ 83 [c12,c13,c14]=some _:=t7
   have t8:DataW.trod enc Tryz.prog w 0 (fun _=>true) held _ 75 [c15,c16,c17,c18,c19]=some _:=t8
   have t9:DataW.trod enc Tryz.prog w 0 (fun _=>true) held _ 4 [c20]=some _:=t9
   have t10:DataW.trod enc Tryz.prog w 0 (fun _=>true) held _ 3 [c21]=some _:=t10
   have g5:=Cq Tryz.underlying78 (by kernel_rfl) rfl t5
   have g6:=Cq Tryz.underlying81 (by kernel_rfl) rfl t6
   have g7:=Cq Tryz.underlying83 (by kernel_rfl) rfl t7
   have g8:=Cq Tryz.underlying75 (by kernel_rfl) rfl t8
   obtain⟨_,_,_,e5,t5⟩:=g5 0 _ rfl
   obtain⟨_,_,_,e6,t6⟩:=g5 1 _ rfl
   obtain⟨_,_,_,e7,t7⟩:=g5 2 _ rfl
   obtain⟨_,_,_,e8,t8⟩:=g5 3 _ rfl
   obtain⟨_,_,_,e9,t11⟩:=g6 0 _ rfl
   obtain⟨_,_,_,e10,t12⟩:=g6 1 _ rfl
   obtain⟨_,_,_,e11,t13⟩:=g6 2 _ rfl
   obtain⟨_,_,_,e12,t14⟩:=g7 0 _ rfl
   obtain⟨_,_,_,e13,t15⟩:=g7 1 _ rfl
   obtain⟨_,_,_,e14,t16⟩:=g7 2 _ rfl
   obtain⟨_,_,_,e15,t17⟩:=g8 0 _ rfl
   obtain⟨_,_,_,e16,t18⟩:=g8 1 _ rfl
   obtain⟨_,_,_,e17,t19⟩:=g8 2 _ rfl
   obtain⟨_,_,_,e18,t20⟩:=g8 3 _ rfl
   obtain⟨_,_,_,e19,t21⟩:=g8 4 _ rfl
   obtain⟨i0,d0,_,_⟩:=DataW.trod_int Tryz.underlying3 t0
   obtain⟨i1,d1,_,_⟩:=DataW.trod_int Tryz.underlying3 t1
   obtain⟨i2,d2,_,_⟩:=DataW.trod_int Tryz.underlying3 t2
   obtain⟨i3,d3,_,_⟩:=DataW.trod_int Tryz.underlying3 t3
   obtain⟨i4,d4,_,_⟩:=DataW.trod_int Tryz.underlying3 t4
   obtain⟨i5,d5,_,_⟩:=DataW.trod_int Tryz.underlying3 t5
   obtain⟨s6,d6,_,_⟩:=DataW.trod_string Tryz.underlying9 t6
   obtain⟨i7,d7,_,_⟩:=DataW.trod_int Tryz.underlying2 t7
   obtain⟨i8,d8,_,_⟩:=DataW.trod_int Tryz.underlying2 t8
   obtain⟨i9,d9,_,_⟩:=DataW.trod_int Tryz.underlying79 t11
   obtain⟨b10,d10,_⟩:=DataW.trod_bool Tryz.underlying4 t12
   obtain⟨i11,d11,_,_⟩:=DataW.trod_int Tryz.underlying2 t13
   obtain⟨A12,k12,l12,d12,hc12,hm12,hi12,_⟩:=FX Tryz.underlying47 Tryz.underlying3 (by kernel_rfl) t14
   obtain⟨A13,k13,l13,d13,_,_,_,_⟩:=FX Tryz.underlying47 Tryz.underlying3 (by kernel_rfl) t15
   obtain⟨A14,k14,l14,d14,_,_,_,_⟩:=FX Tryz.underlying47 Tryz.underlying3 (by kernel_rfl) t16
   obtain⟨i15,d15,_,_⟩:=DataW.trod_int Tryz.underlying3 t17
   obtain⟨i16,d16,_,_⟩:=DataW.trod_int Tryz.underlying3 t18
   obtain⟨i17,d17,_,_⟩:=DataW.trod_int Tryz.underlying3 t19
   obtain⟨i18,d18,_,_⟩:=DataW.trod_int Tryz.underlying2 t20
   obtain⟨i19,d19,_,_⟩:=DataW.trod_int Tryz.underlying3 t21
   obtain⟨b20,d20,_⟩:=DataW.trod_bool Tryz.underlying4 t9
   obtain⟨i21,d21,_,_⟩:=DataW.trod_int Tryz.underlying3 t10
   have hx:maxLen=9223372036854775807:=by decide
   simp at e5 e6 e7 e8 e9 e10 e11 e12 e13 e14 e15 e16 e17 e18 e19 d0 d1 d2 d3 d4 d5 d6 d7 d8 d9 d10 d11 d15 d16 d17 d18 d19 d20 d21
   subst e5 e6 e7 e8 e9 e10 e11 e12 e13 e14 e15 e16 e17 e18 e19 d0 d1 d2 d3 d4 d5 d6 d7 d8 d9 d10 d11 d12 d13 d14 d15 d16 d17 d18 d19 d20 d21
   exact⟨{ kind:=i0,mach:=i1,group:=i4,old:=l12,hitem:=i15,hstate:=i17,gone:=b20,outcome:=i21 },
    ⟨{ v2:=i2,v3:=i3,v5:=i5,v6:=s6,v7:=i7,v8:=i8,v9:=i9,v10:=b10,v11:=i11,A:=A12,c:=k12,A13:=A13,n13:=l13.length,c13:=k13,A14:=A14,n14:=l14.length,c14:=k14,v16:=i16,v18:=i18,v19:=i19 },rfl,hc12,by show k12≤_;omega,hi12⟩,trivial⟩
theorem M9 {r:Reach} {b0:Nat} {v:Value} {d:DataW H} {p:List MemPlace} (hv:Value.okWide Tryz.prog w r b0 30 v) (h:DataW.Trod enc Tryz.prog w 0 (fun _=>true) held 30 v d p) :
    ∃ (A:Option Addr) (c:Nat) (l:List EvM),v=.slice A l.length c∧l.length≤c∧c≤9223372036854775807∧Rows BD 22 w w.heap.size A l:=by
 obtain⟨fuel,hf⟩:=h
 have hcs:v.cells.toList=[v]:=by
  obtain⟨_,_,_,rfl⟩:=okWide_slice Tryz.underlying30 hv
  rfl
 rw[hcs] at hf
 obtain⟨A,c,l,e,h1,h2,h3,_⟩:=Ee (E:=BD) (k:=22) Tryz.underlying30 (by kernel_rfl) (by decide) TG hf
 exact⟨A,c,l,e,h1,h2,h3⟩
end
end Go.Proofs.YtfemlajeomohhaaGreatDoor
