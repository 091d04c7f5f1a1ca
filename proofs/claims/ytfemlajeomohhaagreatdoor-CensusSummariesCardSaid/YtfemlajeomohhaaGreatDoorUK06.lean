/- A part of the claim: see its last text. -/
import Derived.Test.YtfemlajeomohhaaGreatDoorUK04
import Derived.Test.YtfemlajeomohhaaGreatDoorUK05

set_option maxRecDepth 100000
set_option maxHeartbeats 16000000
namespace Go.Proofs.YtfemlajeomohhaaGreatDoor
open Go Go.RowKit Go.Proofs
theorem But.below2{g B B':Nat}{w w':World}(h:But g B w w')(h1:B'≤B)(h2:B'≤g):Below B' w w':=⟨h.os,h.tape,h.output,h.size,fun k hk=>h.block k (Nat.lt_of_lt_of_le hk h1) (by omega)⟩
theorem But.drewN{g B:Nat}{w w':World}(h:But g B w w')(n:Nat):But g B w (w'.drewN n):=h.trans (But.ofBelow (AY (Below.refl _ _) n))
structure Fa (B bo:Nat) (w:World) (l:List ByteArray):Prop where
 ex:∃ v,AB w bo 22 #[v]∧BI B w v l
theorem Fa.keep {B bo:Nat} {w w':World} {l:List ByteArray} (h:Fa B bo w l) (hb:Below w.heap.size w w'):Fa B bo w' l:=by
 obtain⟨v,h1,h2⟩:=h.ex
 exact⟨v,h1.below hb h1.lt,h2.below hb⟩
theorem Fa.drewN {B bo:Nat} {w:World} {l:List ByteArray} (h:Fa B bo w l) (n:Nat):Fa B bo (w.drewN n) l:=by
 obtain⟨v,h1,h2⟩:=h.ex
 exact⟨v,h1.drewN n,h2.below (AY (Below.refl _ _) n)⟩
def Oz (B bo:Nat) (l:List ByteArray) (w:World) (e:Ending) (w':World):Prop :=
 e=.returned (.bool false)∧Fa B bo w' l∧But bo B w w'∧∀ (k:Nat) (T:TypeId) (cs:Array Value),k≠bo→T≠9→AB w k T cs→AB w' k T cs
theorem Q5 (B bo:Nat) (s:ByteArray) (a b:Int) (l:List ByteArray) (w:World) (h:Fa B bo w l) (hbo:bo<B) (hlen:l.length≤1000) (hB:B≤w.heap.size) :
    Calls Tryz.prog 104 #[.string s,.int .i64 a,.int .i64 b,.pointer (some ⟨bo,0,none⟩)] w (Oz B bo (l ++ [s]) w):=by
 obtain⟨v,h1,h2⟩:=h.ex
 have x0:=h1.cell 0
 have f0:=h1.frozen 0
 have hlt:=h1.lt
 simp at x0
 go_enter Tryz.func104,Tryz.ntmps104
 go_wp2_with (at_builtin;refine D6 rfl _ _ rfl B _ l rfl (h2.alloc _) _ _ 1 [s] rfl (Strs.newRow2 w 9 [s] rfl) (by simp;omega) (by simp;omega) ?_;intro v3 x3 hO3 hg3 _
              have hg:(w.alloc (.cells #[.string s] 9)).grownBy x3 v.ownBlock:=hg3
              have hv:=fun k hk=>(h2.lt k hk).1
              have h13:AB x3 bo 22 #[v]:=(h1.alloc _).grown hg (fun e=>by have:=hv _ e.symm;omega)
              have y0:=h13.cell 0
              have g0:=h13.frozen 0
              have hlt3:=h13.lt
              simp at y0
              obtain⟨A3,c3,hv3,_,_⟩:=hO3.form3
              obtain⟨n3,hn3⟩:∃ n3,n3=(l ++ [s]).length:=⟨_,rfl⟩
              rw[← hn3] at hv3
              clear hn3 hg3
              subst hv3)
 go_ret
 refine⟨rfl,⟨_,by have:=h13.set_ 0 (.slice A3 n3 c3);simpa using this,?_⟩,⟨hg.os,hg.tape,hg.output,?_,fun k hkB hne=>?_⟩,fun k T cs hne hT hk=>?_⟩
 · exact hO3.kept ⟨rfl,rfl,rfl,by simp,fun k hk hne=>Below.heap_setCell _ _ _ k (fun e=>hne (by rw[e]))⟩ (.inr (fun e=>by have:=(hO3.lt _ e).1;omega)) (row:=some bo)
 · have:=hg.size;simp at this ⊢;omega
 · have e1:=Below.heap_setCell x3 ⟨bo,0,none⟩ (.slice A3 n3 c3) k hne
   have e2:=hg.block k (by simp;omega) (fun e=>by have:=hv _ e.symm;omega)
   exact(e1.trans e2).trans (Below.heap_alloc w _ k (by omega))
 · have hk1:AB (w.alloc (.cells #[.string s] 9)) k T cs:=hk.alloc _
   have hk2:AB x3 k T cs:=hk1.grown hg (fun e=>by
    rcases h2.2 with⟨rfl,_⟩|⟨g,cap,cur,rfl,_,hh,_⟩
    · cases e
    · obtain rfl:k=g:=Option.some.inj e
      rw[show w.heap[k]? = some (.cells cs T (0,0)) from hk] at hh
      simp at hh
      exact hT hh.2)
   exact hk2.far (p:=⟨bo,0,none⟩) hne _
def Gb(W:World)(e:Ending)(w':World):Prop:=∃ n:Int,e=.returned (.int .i64 n)∧W=w'
def CJ(m:AC)(j:Nat):List ByteArray:=match j with|0=>m.sT|1=>m.fT|2=>m.rT.map (·.name)|3=>m.mT.map (·.name)|_=>m.iT.map (·.name)
def Ho(j:Nat):Nat:=match j with|0=>139|1=>141|2=>143|3=>145|_=>147
def Ja(j:Nat):Nat:=match j with|0=>140|1=>142|2=>144|3=>146|_=>148
def LW(j bm:Nat):Array Value:=match j with|4=>#[.pointer (some ⟨bm,0,none⟩)]|_=>#[]
def EG(m:AC)(j:Nat):List ByteArray:=(List.range j).flatMap (CJ m)
theorem La(m:AC)(j:Nat):EG m j++CJ m j=EG m (j+1):=by simp[EG,List.range_succ]
theorem UY(m:AC):EG m 5=AV m:=by simp[EG,AV,CJ,List.range_succ]
theorem Lt (k:Int) (w:World):Calls Tryz.prog 149 #[.int .i64 k] w (Gb w):=by
 go_enter Tryz.func149,Tryz.ntmps149
 go_wp2_with fail
 all_goals
  go_ret
  exact⟨_,rfl,rfl⟩
theorem UI (h:MH) (m:AC) (bm B0 i:Nat) (W:World) (hM:AB W bm 29 #[.slice h.s m.sT.length h.sc,.slice h.f m.fT.length h.fc,.slice h.r m.rT.length h.rc,.slice h.m m.mT.length h.mc,.slice h.l m.lT.length h.lc,.slice h.i m.iT.length h.ic,.int .i64 m.dT,.int .i64 m.oT,.int .i64 m.vT,.int .i64 m.aT,.slice h.u m.uT.length h.uc]) (d:MD W B0 h m) (hi:i<m.sT.length) (_hl:m.sT.length≤9223372036854775807) :
    Calls Tryz.prog 139 #[.int .i64 i,.pointer (some ⟨bm,0,none⟩)] W fun e w'=>e=.returned (.string m.sT[i])∧W=w':=by
 obtain⟨c0,c1,c2,c3,c4,c5,c6,c7,c8,c9,c10⟩:=MB.cells hM
 have hlt:=hM.lt
 obtain⟨b,off,hA,hb,x0⟩:=GY d.dS hi
 rw[hA] at c0
 have hiI:(i:Int)<(m.sT.length:Int):=by omega
 clear hA
 go_enter Tryz.func139,Tryz.ntmps139
 go_wp2_with fail
 go_ret
 exact⟨rfl,rfl⟩
theorem UJ (h:MH) (m:AC) (bm B0 i:Nat) (W:World) (hM:AB W bm 29 #[.slice h.s m.sT.length h.sc,.slice h.f m.fT.length h.fc,.slice h.r m.rT.length h.rc,.slice h.m m.mT.length h.mc,.slice h.l m.lT.length h.lc,.slice h.i m.iT.length h.ic,.int .i64 m.dT,.int .i64 m.oT,.int .i64 m.vT,.int .i64 m.aT,.slice h.u m.uT.length h.uc]) (d:MD W B0 h m) (hi:i<m.fT.length) (_hl:m.fT.length≤9223372036854775807) :
    Calls Tryz.prog 141 #[.int .i64 i,.pointer (some ⟨bm,0,none⟩)] W fun e w'=>e=.returned (.string m.fT[i])∧W=w':=by
 obtain⟨c0,c1,c2,c3,c4,c5,c6,c7,c8,c9,c10⟩:=MB.cells hM
 have hlt:=hM.lt
 obtain⟨b,off,hA,hb,x0⟩:=GY d.dF hi
 rw[hA] at c1
 have hiI:(i:Int)<(m.fT.length:Int):=by omega
 clear hA
 go_enter Tryz.func141,Tryz.ntmps141
 go_wp2_with fail
 go_ret
 exact⟨rfl,rfl⟩
theorem UK (h:MH) (m:AC) (bm B0 i:Nat) (W:World) (hM:AB W bm 29 #[.slice h.s m.sT.length h.sc,.slice h.f m.fT.length h.fc,.slice h.r m.rT.length h.rc,.slice h.m m.mT.length h.mc,.slice h.l m.lT.length h.lc,.slice h.i m.iT.length h.ic,.int .i64 m.dT,.int .i64 m.oT,.int .i64 m.vT,.int .i64 m.aT,.slice h.u m.uT.length h.uc]) (d:MD W B0 h m) (hi:i<m.rT.length) (_hl:m.rT.length≤9223372036854775807) :
    Calls Tryz.prog 143 #[.int .i64 i,.pointer (some ⟨bm,0,none⟩)] W fun e w'=>e=.returned (.string m.rT[i].name)∧W=w':=by
 obtain⟨c0,c1,c2,c3,c4,c5,c6,c7,c8,c9,c10⟩:=MB.cells hM
 have hlt:=hM.lt
 obtain⟨b,off,hA,hb,x0,x1,x2,_⟩:=d.dR.rack hi
 rw[hA] at c2
 have hiI:(i:Int)<(m.rT.length:Int):=by omega
 clear hA
 go_enter Tryz.func143,Tryz.ntmps143
 go_wp2_with fail
 go_ret
 exact⟨rfl,rfl⟩
theorem UL (h:MH) (m:AC) (bm B0 i:Nat) (W:World) (hM:AB W bm 29 #[.slice h.s m.sT.length h.sc,.slice h.f m.fT.length h.fc,.slice h.r m.rT.length h.rc,.slice h.m m.mT.length h.mc,.slice h.l m.lT.length h.lc,.slice h.i m.iT.length h.ic,.int .i64 m.dT,.int .i64 m.oT,.int .i64 m.vT,.int .i64 m.aT,.slice h.u m.uT.length h.uc]) (d:MD W B0 h m) (hi:i<m.mT.length) (_hl:m.mT.length≤9223372036854775807) :
    Calls Tryz.prog 145 #[.int .i64 i,.pointer (some ⟨bm,0,none⟩)] W fun e w'=>e=.returned (.string m.mT[i].name)∧W=w':=by
 obtain⟨c0,c1,c2,c3,c4,c5,c6,c7,c8,c9,c10⟩:=MB.cells hM
 have hlt:=hM.lt
 obtain⟨b,off,hA,hb,x0,x1,x2,_⟩:=d.dM.mach hi
 rw[hA] at c3
 have hiI:(i:Int)<(m.mT.length:Int):=by omega
 clear hA
 go_enter Tryz.func145,Tryz.ntmps145
 go_wp2_with fail
 go_ret
 exact⟨rfl,rfl⟩
theorem UM (h:MH) (m:AC) (bm B0 i:Nat) (W:World) (hM:AB W bm 29 #[.slice h.s m.sT.length h.sc,.slice h.f m.fT.length h.fc,.slice h.r m.rT.length h.rc,.slice h.m m.mT.length h.mc,.slice h.l m.lT.length h.lc,.slice h.i m.iT.length h.ic,.int .i64 m.dT,.int .i64 m.oT,.int .i64 m.vT,.int .i64 m.aT,.slice h.u m.uT.length h.uc]) (d:MD W B0 h m) (hi:i<m.iT.length) (_hl:m.iT.length≤9223372036854775807) :
    Calls Tryz.prog 147 #[.int .i64 i,.pointer (some ⟨bm,0,none⟩)] W fun e w'=>e=.returned (.string m.iT[i].name)∧W=w':=by
 obtain⟨c0,c1,c2,c3,c4,c5,c6,c7,c8,c9,c10⟩:=MB.cells hM
 have hlt:=hM.lt
 obtain⟨b,off,A2,c2,hA,hb,x0,x1,x2,x3,x4,x5,x6,_⟩:=d.dI.item hi
 rw[hA] at c5
 have hiI:(i:Int)<(m.iT.length:Int):=by omega
 clear hA
 go_enter Tryz.func147,Tryz.ntmps147
 go_wp2_with fail
 go_ret
 exact⟨rfl,rfl⟩
theorem UC (i:Nat) (W:World):Calls Tryz.prog 140 #[.int .i64 i] W (Gb W):=by
 go_enter Tryz.func140,Tryz.ntmps140
 go_wp2_with fail
 go_ret
 exact⟨_,rfl,rfl⟩
theorem UD (i:Nat) (W:World):Calls Tryz.prog 142 #[.int .i64 i] W (Gb W):=by
 go_enter Tryz.func142,Tryz.ntmps142
 go_wp2_with fail
 go_ret
 exact⟨_,rfl,rfl⟩
theorem UE (i:Nat) (W:World):Calls Tryz.prog 144 #[.int .i64 i] W (Gb W):=by
 go_enter Tryz.func144,Tryz.ntmps144
 go_wp2_with fail
 go_ret
 exact⟨_,rfl,rfl⟩
theorem UF (i:Nat) (W:World):Calls Tryz.prog 146 #[.int .i64 i] W (Gb W):=by
 go_enter Tryz.func146,Tryz.ntmps146
 go_wp2_with fail
 go_ret
 exact⟨_,rfl,rfl⟩
theorem UG (h:MH) (m:AC) (bm B0 i:Nat) (W:World) (hM:AB W bm 29 #[.slice h.s m.sT.length h.sc,.slice h.f m.fT.length h.fc,.slice h.r m.rT.length h.rc,.slice h.m m.mT.length h.mc,.slice h.l m.lT.length h.lc,.slice h.i m.iT.length h.ic,.int .i64 m.dT,.int .i64 m.oT,.int .i64 m.vT,.int .i64 m.aT,.slice h.u m.uT.length h.uc]) (d:MD W B0 h m) (hi:i<m.iT.length) (_hl:m.iT.length≤9223372036854775807) :
    Calls Tryz.prog 148 #[.int .i64 i,.pointer (some ⟨bm,0,none⟩)] W (Gb W):=by
 obtain⟨c0,c1,c2,c3,c4,c5,c6,c7,c8,c9,c10⟩:=MB.cells hM
 have hlt:=hM.lt
 obtain⟨b,off,A2,c2',hA,hb,x0,x1,x2,x3,x4,x5,x6,_⟩:=d.dI.item hi
 rw[hA] at c5
 have hiI:(i:Int)<(m.iT.length:Int):=by omega
 clear hA
 go_enter Tryz.func148,Tryz.ntmps148
 go_wp2_with (go_at_call 149;refine(Lt _ _).mono ?_;rintro e w1 ⟨n,rfl,rfl⟩)
 go_ret
 exact⟨_,rfl,rfl⟩
theorem Rz (h:MH) (m:AC) (bm B0 i j:Nat) (hj:j<5) (W:World) (hM:AB W bm 29 #[.slice h.s m.sT.length h.sc,.slice h.f m.fT.length h.fc,.slice h.r m.rT.length h.rc,.slice h.m m.mT.length h.mc,.slice h.l m.lT.length h.lc,.slice h.i m.iT.length h.ic,.int .i64 m.dT,.int .i64 m.oT,.int .i64 m.vT,.int .i64 m.aT,.slice h.u m.uT.length h.uc]) (d:MD W B0 h m) (hi:i<(CJ m j).length) :
    Calls Tryz.prog (Ho j) (#[.int .i64 i] ++ #[.pointer (some ⟨bm,0,none⟩)]) W fun e w'=>e=.returned (.string (CJ m j)[i])∧W=w':=by
 match j,hj,hi with
 | 0,_,hi=>exact UI h m bm B0 i W hM d hi d.sl
 | 1,_,hi=>exact UJ h m bm B0 i W hM d hi d.fl
 | 2,_,hi=>simp[CJ] at hi;simpa[CJ,Ho] using UK h m bm B0 i W hM d hi d.rl
 | 3,_,hi=>simp[CJ] at hi;simpa[CJ,Ho] using UL h m bm B0 i W hM d hi d.ml
 | 4,_,hi=>simp[CJ] at hi;simpa[CJ,Ho] using UM h m bm B0 i W hM d hi d.il
theorem Rx (h:MH) (m:AC) (bm B0 i j:Nat) (hj:j<5) (W:World) (hM:AB W bm 29 #[.slice h.s m.sT.length h.sc,.slice h.f m.fT.length h.fc,.slice h.r m.rT.length h.rc,.slice h.m m.mT.length h.mc,.slice h.l m.lT.length h.lc,.slice h.i m.iT.length h.ic,.int .i64 m.dT,.int .i64 m.oT,.int .i64 m.vT,.int .i64 m.aT,.slice h.u m.uT.length h.uc]) (d:MD W B0 h m) (hi:i<(CJ m j).length) :
    Calls Tryz.prog (Ja j) (#[.int .i64 i]++LW j bm) W (Gb W):=by
 match j,hj,hi with
 | 0,_,hi=>exact UC i W
 | 1,_,hi=>exact UD i W
 | 2,_,hi=>exact UE i W
 | 3,_,hi=>exact UF i W
 | 4,_,hi=>simp[CJ] at hi;exact UG h m bm B0 i W hM d hi d.il
theorem Rj (j:Nat) (hj:j<5):∀ args w,(callFunc (Ho j) args).run Tryz.prog w=.ok (.enter (Ho j) args) w:=by
 match j,hj with
 | 0,_=>exact(show ∀ args w,(callFunc 139 args).run Tryz.prog w=.ok (.enter 139 args) w from fun args w=>by kernel_rfl)
 | 1,_=>exact(show ∀ args w,(callFunc 141 args).run Tryz.prog w=.ok (.enter 141 args) w from fun args w=>by kernel_rfl)
 | 2,_=>exact(show ∀ args w,(callFunc 143 args).run Tryz.prog w=.ok (.enter 143 args) w from fun args w=>by kernel_rfl)
 | 3,_=>exact(show ∀ args w,(callFunc 145 args).run Tryz.prog w=.ok (.enter 145 args) w from fun args w=>by kernel_rfl)
 | 4,_=>exact(show ∀ args w,(callFunc 147 args).run Tryz.prog w=.ok (.enter 147 args) w from fun args w=>by kernel_rfl)
theorem Ri (j:Nat) (hj:j<5):∀ args w,(callFunc (Ja j) args).run Tryz.prog w=.ok (.enter (Ja j) args) w:=by
 match j,hj with
 | 0,_=>exact(show ∀ args w,(callFunc 140 args).run Tryz.prog w=.ok (.enter 140 args) w from fun args w=>by kernel_rfl)
 | 1,_=>exact(show ∀ args w,(callFunc 142 args).run Tryz.prog w=.ok (.enter 142 args) w from fun args w=>by kernel_rfl)
 | 2,_=>exact(show ∀ args w,(callFunc 144 args).run Tryz.prog w=.ok (.enter 144 args) w from fun args w=>by kernel_rfl)
 | 3,_=>exact(show ∀ args w,(callFunc 146 args).run Tryz.prog w=.ok (.enter 146 args) w from fun args w=>by kernel_rfl)
 | 4,_=>exact(show ∀ args w,(callFunc 148 args).run Tryz.prog w=.ok (.enter 148 args) w from fun args w=>by kernel_rfl)
def QT(w:World)(l:List AO)(e:Ending)(w':World):Prop:=∃ A c,e=.returned (.slice A l.length c)∧UT w' (.slice A l.length c) l∧Below w.heap.size w w'
theorem Du{p:AA}{item:Int}(h:AP item p.length=false):AQ p item=[]:=by simp[AQ,h]
theorem DJ {p:AA} {j:Nat} (hj:j<p.length):AQ p ((j:Int)+1)=p[j]:=by
 have:AP ((j:Int)+1) p.length=true:=by simp[AP];omega
 simp[AQ,this,hj]
theorem QE (A:Option Addr) (c:Nat) (p:AA) (item:Int) (w:World) (h:PT w (.slice A p.length c) p) (hl:p.length≤9223372036854775807) :
    Calls Tryz.prog 75 #[.agg #[.slice A p.length c],.int .i64 item] w (QT w (AQ p item)):=by
 have HB:=hide ((Below.refl w.heap.size w).alloc (Nat.le_refl _) (.cells #[.slice A p.length c] 56))
 by_cases e1:item<1
 · have HU:=hide (Du (p:=p) (item:=item) (by simp[AP];omega))
   go_enter Tryz.func75,Tryz.ntmps75
   go_wp2_with fail
   go_ret
   rw[HU.out]
   exact⟨none,0,rfl,UT.nil_ _,HB.out⟩
 by_cases e2:(p.length:Int)<item
 · have HU:=hide (Du (p:=p) (item:=item) (by simp[AP];omega))
   go_enter Tryz.func75,Tryz.ntmps75
   go_wp2_with fail
   go_ret
   rw[HU.out]
   exact⟨none,0,rfl,UT.nil_ _,HB.out⟩
 · obtain⟨j,hj,rfl⟩:∃ j:Nat,j<p.length∧item=(j:Int)+1:=⟨(item - 1).toNat,by omega,by omega⟩
   obtain⟨b,off,A2,c2,rfl,hb,x0,hu⟩:=h.at_ hj
   have HU:=hide (DJ hj)
   have HT:=hide hu
   have hjI:(j:Int)<(p.length:Int):=by omega
   clear hu h
   go_enter Tryz.func75,Tryz.ntmps75
   go_wp2_with fail
   go_ret
   rw[HU.out]
   exact⟨A2,c2,rfl,HT.out.keep (KT.below HB.out),HB.out⟩
theorem Gr (A:Option Addr) (c:Nat) (p:AA) (item:Int) (w:World) (h:PT w (.slice A p.length c) p) (hl:p.length≤9223372036854775807) :
    Calls Tryz.prog 134 #[.agg #[.slice A p.length c],.int .i64 item] w (QT w (AQ p item)):=by
 have HB:=hide ((Below.refl w.heap.size w).alloc (Nat.le_refl _) (.cells #[.slice A p.length c] 56))
 cases e1:AP item p.length
 · have HU:=hide (Du e1)
   go_enter Tryz.func134,Tryz.ntmps134
   go_wp2_with (go_at_call 21;refine(Aa _ _ _).mono ?_;rintro e w2 ⟨rfl,rfl⟩)
   go_ret
   rw[HU.out]
   exact⟨none,0,rfl,UT.nil_ _,HB.out⟩
 · have hit:1≤item∧item≤(p.length:Int):=by simpa[AP] using e1
   obtain⟨j,hj,rfl⟩:∃ j:Nat,j<p.length∧item=(j:Int)+1:=⟨(item - 1).toNat,by omega,by omega⟩
   obtain⟨b,off,A2,c2,rfl,hb,x0,hu⟩:=h.at_ hj
   have HU:=hide (DJ hj)
   have HT:=hide hu
   have hjI:(j:Int)<(p.length:Int):=by omega
   clear hu h hit
   go_enter Tryz.func134,Tryz.ntmps134
   go_wp2_with (go_at_call 21;refine(Aa _ _ _).mono ?_;rintro e w2 ⟨rfl,rfl⟩)
   go_ret
   rw[HU.out]
   exact⟨A2,c2,rfl,HT.out.keep (KT.below HB.out),HB.out⟩
def MO (g:Nat) (lb:Array Value) (l:List AO) (p:AO→Bool) (w:World):Prop :=
 ∀ (i:Nat) (_:i<l.length) (W:World),Below w.heap.size w W→Calls Tryz.prog g (#[.agg #[.int .i64 l[i].1,.int .i64 l[i].2]]++lb) W fun e w'=>e=.returned (.bool (p l[i]))∧Below W.heap.size W w'
theorem FD (g:Nat) (lb:Array Value) (eg:∀ args w,(callFunc g args).run Tryz.prog w=.ok (.enter g args) w) (p:AO→Bool) (A:Option Addr) (c:Nat) (l:List AO) (w:World)
    (hl:l.length≤9223372036854775807) (h:UT w (.slice A l.length c) l) (hp:MO g lb l p w) :
    Calls Tryz.prog 173 #[.slice A l.length c,.func (.func g) #[] lb] w fun e w'=>e=.returned (.int .i64 (Ae p l))∧Below w.heap.size w w':=by
 have HP:=hide hp;clear hp
 go_enter Tryz.func173,Tryz.ntmps173
 go_wp2_with fail
 go_loopw [8] (fun i wr=>∃ k:Nat,k≤l.length∧i=.int .i64 k∧Below w.heap.size w wr∧Hid (∀ j (hj:j<l.length),j<k→p l[j]=false)) (fun i _=>l.length - (intOf i).toNat)
 case atStart=>exact⟨0,Nat.zero_le _,rfl,Below.refl _ _,fun j hj h0=>absurd h0 (by omega)⟩
 case round =>
  obtain⟨k,hk,rfl,hbr,hs⟩:=hrel
  by_cases hlt:k<l.length
  · obtain ⟨b,off,hA,hb,x0,x1⟩:=(h.keep (KT.below hbr)).at_ hlt
    subst hA
    have hC:=HP.out k hlt wr hbr
    cases hpk:p l[k]
    · rw [hpk] at hC
      have HC:=hide hC
      clear hC
      go_wp2_with (refine(HC.out).mono ?_;rintro e w1 ⟨rfl,hb1⟩)
      go_roundw
      case rel=>exact⟨k+1,by omega,by go_num,hbr.trans (hb1.mono hbr.size),fun j hj h1=>by
       rcases Nat.lt_or_ge j k with h2|h2
       · exact hs j hj h2
       · obtain rfl:j=k:=by omega
         exact hpk⟩
      case measure=>simp[intOf];omega
    · rw[hpk] at hC
      have HC:=hide hC
      have HF:=hide (CF hlt hpk hs)
      clear hC
      go_wp2_with (refine(HC.out).mono ?_;rintro e w1 ⟨rfl,hb1⟩)
      go_ret
      exact⟨AJ (by rw[HF.out];rfl),hbr.trans (hb1.mono hbr.size)⟩
  · have HF:=hide (Ba fun j hj=>hs j hj (by omega))
    go_wp2_with fail
    go_ret
    exact⟨AJ (by rw[HF.out];rfl),hbr⟩
theorem Uk (u:AO) (mc:Int) (bx:Nat) (W:World) (hX:AB W bx 3 #[.int .i64 mc]) :
    Calls Tryz.prog 204 #[.agg #[.int .i64 u.1,.int .i64 u.2],.pointer (some ⟨bx,0,none⟩)] W fun e w'=>e=.returned (.bool (decide (u.1=mc)))∧Below W.heap.size W w':=by
 have x0:=hX.cell 0
 have hlt:=hX.lt
 simp at x0
 have HB:=hide ((Below.refl W.heap.size W).alloc (Nat.le_refl _) (.cells #[.int .i64 u.1,.int .i64 u.2] 72))
 go_enter Tryz.func204,Tryz.ntmps204
 go_wp2_with fail
 go_ret
 exact⟨rfl,HB.out⟩
theorem PP (u:AO) (mc:Int) (bx:Nat) (W:World) (hX:AB W bx 3 #[.int .i64 mc]) :
    Calls Tryz.prog 174 #[.agg #[.int .i64 u.1,.int .i64 u.2],.pointer (some ⟨bx,0,none⟩)] W fun e w'=>e=.returned (.bool (decide (mc<u.1)))∧Below W.heap.size W w':=by
 have x0:=hX.cell 0
 have hlt:=hX.lt
 simp at x0
 have HB:=hide ((Below.refl W.heap.size W).alloc (Nat.le_refl _) (.cells #[.int .i64 u.1,.int .i64 u.2] 72))
 go_enter Tryz.func174,Tryz.ntmps174
 go_wp2_with fail
 go_ret
 exact⟨rfl,HB.out⟩
def Cg(l:List AO)(mc:Int):Int:=Ae (fun u=>decide (u.1=mc)) l
theorem Dw(l:List AO)(mc:Int):Cg l mc=match Ch l mc with|some k=>(k:Int)|none=>-1:=rfl
theorem Nu (l:List AO) (mc:Int) : -1≤Cg l mc∧Cg l mc<l.length+1:=by
 rw[Dw]
 cases h:Ch l mc with
 | none=>simp;omega
 | some k =>
   have:=(List.findIdx?_eq_some_iff_getElem.1 h).1
   simp;omega
theorem Il (A:Option Addr) (c:Nat) (p:AA) (item mc:Int) (w:World) (h:PT w (.slice A p.length c) p) (hl:p.length≤9223372036854775807) (hul:(AQ p item).length≤9223372036854775807) :
    Calls Tryz.prog 169 #[.agg #[.slice A p.length c],.int .i64 item,.int .i64 mc] w fun e w'=>e=.returned (.int .i64 (Cg (AQ p item) mc))∧Below w.heap.size w w':=by
 have hB:Below w.heap.size w ((w.alloc (.cells #[.slice A p.length c] 56)).alloc (.cells #[.int .i64 mc] 3)):=((Below.refl _ _).alloc (Nat.le_refl _) _).alloc (by simp) _
 have HB:=hide hB
 have HU:=hide (QE A c p item _ (h.below hB) hl)
 have HX:=hide (AB.new (w.alloc (.cells #[.slice A p.length c] 56)) 3 #[.int .i64 mc])
 clear hB h
 go_enter Tryz.func169,Tryz.ntmps169
 go_wp2_with (first
  | (go_at_call 75;refine HU.out.mono ?_;rintro e w1 ⟨A2,c2,rfl,hu,hb1⟩
     have HI:=hide (FD 204 #[.pointer (some ⟨w.heap.size+1,0,none⟩)] (fun _ _=>by kernel_rfl) (fun u=>decide (u.1=mc)) A2 c2 (AQ p item) w1 hul hu (fun i hi W hW=>Uk _ mc _ W (by
      have h1:=HX.out.below hb1 (by simp)
      have h2:=h1.below hW h1.lt
      simpa using h2)))
     clear hu)
  | (go_at_call 173;refine HI.out.mono ?_;rintro e w2 ⟨rfl,hb2⟩))
 go_ret
 have hb01:=HB.out.trans (hb1.mono HB.out.size)
 exact⟨rfl,hb01.trans (hb2.mono hb01.size)⟩
theorem Gg (A:Option Addr) (c:Nat) (l:List AO) (mc:Int) (w:World) (hl:l.length≤9223372036854775807) (h:UT w (.slice A l.length c) l) :
    Calls Tryz.prog 135 #[.slice A l.length c,.int .i64 mc] w fun e w'=>e=.returned (.int .i64 (Cg l mc))∧w=w':=by
 go_enter Tryz.func135,Tryz.ntmps135
 go_wp2_with fail
 go_loop [5] (fun i=>∃ k:Nat,k≤l.length∧i=.int .i64 k∧Hid (∀ j (hj:j<l.length),j<k→(fun u:AO=>decide (u.1=mc)) l[j]=false)) (fun i=>l.length - (intOf i).toNat)
 case atStart=>exact⟨0,Nat.zero_le _,rfl,fun j hj h0=>absurd h0 (by omega)⟩
 case round =>
  obtain⟨k,hk,rfl,hs⟩:=hrel
  by_cases hlt:k<l.length
  · obtain ⟨b,off,hA,hb,x0,x1⟩:=h.at_ hlt
    subst hA
    by_cases e1:l[k].1=mc
    · have g1:(l[k].1 == mc)=true:=by simpa using e1
      have HF:=hide (CF (p:=fun u:AO=>decide (u.1=mc)) hlt (by simpa using e1) hs)
      clear e1
      go_wp2_with fail
      go_ret
      exact⟨AJ (by rw[Cg,HF.out];rfl),rfl⟩
    · have g1:(l[k].1 == mc)=false:=by simpa using e1
      have HK:=hide e1
      clear e1
      go_wp2_with fail
      go_round
      case rel=>exact⟨k+1,by omega,by go_num,fun j hj h1=>by
       rcases Nat.lt_or_ge j k with h2|h2
       · exact hs j hj h2
       · obtain rfl:j=k:=by omega
         simpa using HK.out⟩
      case measure=>simp[intOf];omega
  · have HF:=hide (Ba (p:=fun u:AO=>decide (u.1=mc)) fun j hj=>hs j hj (by omega))
    go_wp2_with fail
    go_ret
    exact⟨AJ (by rw[Cg,HF.out];rfl),rfl⟩
theorem RL (a:Addr) (n c:Nat) (w:World):(binOp .eql 57 (.slice (some a) n c) (.slice none 0 0)).run Tryz.prog w=.ok (.bool false) w:=by
 have h:∀ d:Nat,(Op.equalIn (d+1) 57 (.slice (some a) n c) (.slice none 0 0)).run Tryz.prog w=.ok false w:=fun d=>by
  simp[Op.equalIn,run_underlying Tryz.underlying57]
 simp only[binOp]
 simp[Op.equal,Op.maxDepth,h 9999]
theorem RJ (n c:Nat) (w:World):(binOp .eql 57 (.slice none n c) (.slice none 0 0)).run Tryz.prog w=.ok (.bool true) w:=by
 have h:∀ d:Nat,(Op.equalIn (d+1) 57 (.slice none n c) (.slice none 0 0)).run Tryz.prog w=.ok true w:=fun d=>by
  simp[Op.equalIn,run_underlying Tryz.underlying57]
 simp only[binOp]
 simp[Op.equal,Op.maxDepth,h 9999]
def QQ(w:World)(l:List AO)(e:Ending)(w':World):Prop:=∃ v,e=.returned v∧Ad w.heap.size w' v l∧Below w.heap.size w w'
theorem NZ (A : Option Addr) (c:Nat) (l:List AO) (w:World) (h:UT w (.slice A l.length c) l) (hl:l.length≤1000) :
    Calls Tryz.prog 207 #[.slice A l.length c] w (QQ w l):=by
 have hs1:=RL
 have hs2:=RJ
 cases A with
 | none =>
   have hn:l=[]:=by
    obtain⟨_,_,e,_,_,h3⟩:=h
    rcases Nat.eq_zero_or_pos l.length with h0|h0
    · exact List.eq_nil_of_length_eq_zero h0
    · obtain⟨g,off,cur,e2,_⟩:=h3 h0
      injection e with e1
      rw[← e1] at e2;cases e2
   subst hn
   have hr:=hide (Ad.nil_ w.heap.size w)
   go_enter Tryz.func207,Tryz.ntmps207
   go_wp2_with fail
   go_ret
   exact⟨_,rfl,hr.out,Below.refl _ _⟩
 | some ad =>
   have hB:=(Below.refl w.heap.size w).alloc (Nat.le_refl _) (.cells #[] 72)
   have HB:=hide hB
   have HO:=hide (Ad.empty (B:=w.heap.size) w (Nat.le_refl _) (g:=w.heap.size) rfl)
   have HR:=hide (h.keep (KT.below hB)).reads
   clear hB h
   go_enter Tryz.func207,Tryz.ntmps207
   go_wp2_with (at_builtin;refine Dn rfl _ _ rfl w.heap.size _ [] rfl HO.out _ (some ad) l.length c l rfl rfl HR.out (by simp;omega) (by simp) ?_;intro v1 w1 hO1 hg1 _;rw[List.nil_append] at hO1
                have hb1:=HB.out.grown hg1 HB.out.size (fun k hk=>(HO.out.lt k hk).1))
   go_ret
   exact⟨v1,rfl,hO1,hb1⟩
end Go.Proofs.YtfemlajeomohhaaGreatDoor
