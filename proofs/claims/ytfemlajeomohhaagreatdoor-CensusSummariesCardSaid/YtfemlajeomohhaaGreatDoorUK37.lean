/- A part of the claim: see its last text. -/
import Derived.Test.YtfemlajeomohhaaGreatDoorUK36

set_option maxRecDepth 100000
set_option maxHeartbeats 16000000
namespace Go.Proofs.YtfemlajeomohhaaGreatDoor
open Go Go.RowKit Go.Proofs
def Az(l:List (Int×Int)):List Value:=l.flatMap fun b=>[.int .i64 b.1,.int .i64 0,.int .i64 b.2,.int .i64 0,.int .i64 0]
theorem Jp(a b:List (Int×Int)):Az (a++b)=Az a++Az b:=by simp[Az]
theorem Lr (l:List (Int×Int)):∀ u∈Az l,u.oneCell'=true:=by
 intro u hu
 simp only[Az,List.mem_flatMap] at hu
 obtain⟨b,_,hu⟩:=hu
 simp at hu
 rcases hu with rfl|rfl|rfl|rfl <;> rfl
theorem Ms (l:List (Int×Int)):∀ k (hk:k<l.length),(Az l)[k*5]? = some (.int .i64 l[k].1)∧(Az l)[k*5+1]? = some (.int .i64 0)∧(Az l)[k*5+2]? = some (.int .i64 l[k].2)∧(Az l)[k*5+3]? = some (.int .i64 0)∧(Az l)[k*5+4]? = some (.int .i64 0):=by
 induction l with
 | nil=>intro k hk;simp at hk
 | cons b l ih =>
   intro k hk
   cases k with
   | zero=>simp[Az]
   | succ k =>
     have:=ih k (by simpa using hk)
     have e:∀ j,(Az (b :: l))[(k+1)*5+j]? = (Az l)[k*5+j]?:=fun j=>by
      have:(k+1)*5+j=(k*5+j)+5:=by omega
      rw[this]
      simp[Az]
     exact⟨(e 0).trans this.1,(e 1).trans this.2.1,(e 2).trans this.2.2.1,(e 3).trans this.2.2.2.1,(e 4).trans this.2.2.2.2⟩
def Cm(B:Nat)(w:World)(v:Value)(l:List (Int×Int)):Prop:=w.ownsRow B 75 5 v l.length (Az l)
theorem Uj:(Tryz.prog.info? 75).map (fun i=>(i.zero,i.size,i.bytes))=some (some (.agg #[.int .i64 0,.int .i64 0,.int .i64 0,.int .i64 0,.int .i64 0]),5,40):=by kernel_rfl
theorem Cm.nil_(B:Nat)(w:World):Cm B w (.slice none 0 0) []:=World.ownsRow_nil _ _ _ _
theorem Cm.empty (w:World):Cm w.heap.size (w.alloc (.cells #[] 75)) (.slice (some ⟨w.heap.size,0,none⟩) 0 0) []:=by
 have:=World.ownsRow_lit (e:=75) (size:=5) w #[] 0 (Nat.le_refl _) (by decide) (by simp)
 simpa[Cm,Az] using this
theorem Cm.lt{B:Nat}{w:World}{v:Value}{l:List (Int×Int)}(h:Cm B w v l):∀ k,v.ownBlock=some k→B≤k∧k<w.heap.size:=World.ownsRow.lt h
theorem Cm.below {B:Nat} {w w':World} {v:Value} {l:List (Int×Int)} (h:Cm B w v l) (hb:Below w.heap.size w w'):Cm B w' v l:=by
 refine⟨h.1,?_⟩
 rcases h.2 with h0|⟨g,cap,cur,e,hB,hh,h4⟩
 · exact .inl h0
 · exact .inr ⟨g,cap,cur,e,hB,AB.below hh hb (AB.lt hh),h4⟩
def QR (w:World) (A:Option Addr) (l:List (Int×Int)):Prop:=∀ k (hk:k<l.length),∃ b off,A=some ⟨b,off,none⟩∧b<w.heap.size ∧
 w.cell? ⟨b,off+k*5,none⟩=some (.int .i64 l[k].1)∧w.cell? ⟨b,off+k*5+1,none⟩=some (.int .i64 0)∧w.cell? ⟨b,off+k*5+2,none⟩=some (.int .i64 l[k].2)∧w.cell? ⟨b,off+k*5+3,none⟩=some (.int .i64 0)∧w.cell? ⟨b,off+k*5+4,none⟩=some (.int .i64 0)
theorem QR.grow {w w':World} {A:Option Addr} {l:List (Int×Int)} (h:QR w A l) (hb:Below w.heap.size w w'):QR w' A l:=fun k hk=>by
 obtain⟨b,off,e,hl,h0,h1,h2,h3,h4⟩:=h k hk
 exact⟨b,off,e,Nat.lt_of_lt_of_le hl hb.size,(hb.cell (by exact hl)).trans h0,(hb.cell (by exact hl)).trans h1,(hb.cell (by exact hl)).trans h2,(hb.cell (by exact hl)).trans h3,(hb.cell (by exact hl)).trans h4⟩
theorem Cm.rd {B:Nat} {w:World} {v:Value} {l:List (Int×Int)} (h:Cm B w v l):∃ A c,v=.slice A l.length c∧QR w A l:=by
 rcases h.2 with⟨rfl,h0⟩|⟨g,cap,cur,rfl,_,hh,hc,hm,_,ht⟩
 · have:l=[]:=List.eq_nil_of_length_eq_zero h0
   subst this
   exact⟨none,0,rfl,fun k hk=>absurd hk (by simp)⟩
 · refine⟨_,cap,rfl,fun k hk=>⟨g,0,rfl,AB.lt hh,?_⟩⟩
   have hx:∀ j u,(Az l)[j]? = some u→w.cell? ⟨g,0+j,none⟩=some u:=fun j u hu=>by
    rw[Nat.zero_add,AB.cell hh j]
    rw[← ht,List.getElem?_take] at hu
    split at hu
    · simpa using hu
    · cases hu
   obtain⟨h0,h1,h2,h3,h4⟩:=Ms l k hk
   exact⟨hx _ _ h0,hx _ _ h1,hx _ _ h2,hx _ _ h3,hx _ _ h4⟩
theorem FM {ops:Array Oper} {rest:List Oper} {o:Oper} {a:Act} {Q:Exit→Act→World→Prop} {w:World} (hgd:o.guard=none) (s x:Operand)
    (ho:o.op=.call { callee:=.builtin .append,args:=#[s,x],argTypes:=#[37,37] })
    (base:Nat) (v:Value) (l:List (Int×Int)) (hs:a.eval s=v) (hown:Cm base w v l)
    (B:Nat) (A:Option Addr) (c:Nat) (b:Int×Int) (hx:a.eval x=.slice A 1 c) (hr:Reads w B 5 A 1 (Az [b]))
    (hlen:l.length+1≤1000000) (hbase:base≤w.heap.size)
    (h:∀ v' w',Cm base w' v' (l ++ [b])→w.grownBy w' v.ownBlock→wpList Tryz.prog ops Q rest (a.put o.dst v') w'):wpList Tryz.prog ops Q (o :: rest) a w:=by
 obtain⟨i0,hi,hz0,hz1,hz2⟩:=info_parts Uj
 refine wpList_plain hgd fun _ hK=>BZ w s x 37 ho base 75 i0 _ 5 40 Tryz.underlying37 hi hz0 hz1 hz2 rfl (by omega) v l.length (Az l) hs hown B A 1 c (Az [b]) hx hr (Lr [b]) (by unfold maxLen;omega) (by omega) hbase
  fun v' w' h2 h3 _=>hK _ _ (h v' w' ?_ h3)
 unfold Cm;rw[Jp,List.length_append];exact h2
theorem JI (w:World) (a b:Int):Reads (w.alloc (.cells #[.int .i64 a,.int .i64 0,.int .i64 b,.int .i64 0,.int .i64 0] 75)) (w.heap.size+1) 5 (some ⟨w.heap.size,0,none⟩) 1 (Az [(a,b)]) :=
 ⟨rfl,fun _=>⟨_,rfl,by simp,fun j u hu=>by rw[BA,Nat.zero_add,CZ];simpa[Az] using hu⟩⟩
def JF(w:World)(ds:List (Int×Int))(e:Ending)(w':World):Prop:=∃ A c,e=.returned (.slice A ds.length c)∧QR w' A ds∧Below w.heap.size w w'
theorem Im {α:Type} {p:α→Bool} {l:List α} (h:0≤Ae p l):(Ae p l).toNat<l.length∧Ae p l=((Ae p l).toNat:Int):=by
 unfold Ae at h ⊢
 cases hf:l.findIdx? p with
 | none=>rw[hf] at h;simp at h
 | some k =>
   rw[List.findIdx?_eq_some_iff_getElem] at hf
   exact⟨by simpa using hf.1,by simp⟩
structure DD (w:World) (h:MH) (m:AC) (bx:Nat) (u:AO) (w3 W:World):Prop where
 s:AB W w.heap.size 29 #[.slice h.s m.sT.length h.sc,.slice h.f m.fT.length h.fc,.slice h.r m.rT.length h.rc,.slice h.m m.mT.length h.mc,.slice h.l m.lT.length h.lc,.slice h.i m.iT.length h.ic,.int .i64 m.dT,.int .i64 m.oT,.int .i64 m.vT,.int .i64 m.aT,.slice h.u m.uT.length h.uc]
 u:AB W bx 72 #[.int .i64 u.1,.int .i64 u.2]
 b:Below w3.heap.size w3 W
theorem DD.drew{w:World}{h:MH}{m:AC}{bx:Nat}{u:AO}{w3 W:World}(s:DD w h m bx u w3 W):DD w h m bx u w3 W.drew:=⟨s.s.drew,s.u.drew,s.b.drew⟩
theorem DD.grow{w:World}{h:MH}{m:AC}{bx:Nat}{u:AO}{w3 W W':World}(s:DD w h m bx u w3 W)(hb:Below W.heap.size W W'):DD w h m bx u w3 W':=⟨s.s.below hb s.s.lt,s.u.below hb s.u.lt,s.b.trans (hb.mono s.b.size)⟩
theorem DD.cells{w:World}{h:MH}{m:AC}{bx:Nat}{u:AO}{w3 W:World}(s:DD w h m bx u w3 W):(W.cell? ⟨w.heap.size,0,none⟩=some (.slice h.s m.sT.length h.sc)∧W.cell? ⟨w.heap.size,1,none⟩=some (.slice h.f m.fT.length h.fc)∧W.cell? ⟨w.heap.size,2,none⟩=some (.slice h.r m.rT.length h.rc)∧W.cell? ⟨w.heap.size,3,none⟩=some (.slice h.m m.mT.length h.mc)∧W.cell? ⟨w.heap.size,4,none⟩=some (.slice h.l m.lT.length h.lc)∧W.cell? ⟨w.heap.size,5,none⟩=some (.slice h.i m.iT.length h.ic)∧W.cell? ⟨w.heap.size,6,none⟩=some (.int .i64 m.dT)∧W.cell? ⟨w.heap.size,7,none⟩=some (.int .i64 m.oT)∧W.cell? ⟨w.heap.size,8,none⟩=some (.int .i64 m.vT)∧W.cell? ⟨w.heap.size,9,none⟩=some (.int .i64 m.aT)∧W.cell? ⟨w.heap.size,10,none⟩=some (.slice h.u m.uT.length h.uc))∧W.cell? ⟨bx,0,none⟩=some (.int .i64 u.1)∧W.cell? ⟨bx,1,none⟩=some (.int .i64 u.2):=⟨MB.cells s.s,s.u.cell 0,s.u.cell 1⟩
def VQ(m:AC)(P:AA)(w3:World)(v i:Value)(wr:World):Prop:=∃ k:Nat,k≤P.length∧i=.int .i64 k∧Hid (Cm w3.heap.size wr v (Cv m P k))∧Below w3.heap.size w3 wr
def VS(m:AC)(P:AA)(k:Nat)(us:List AO)(w3:World)(v i:Value)(wr:World):Prop:=∃ j:Nat,j≤us.length∧i=.int .i64 j∧Hid (Cm w3.heap.size wr v (Cv m P k++(us.take j).flatMap (Dv m k)))∧Below w3.heap.size w3 wr
theorem Sy (h:MH) (m:AC) (l:List EvM) (A:Option Addr) (c:Nat) (w:World) (d:MD w w.heap.size h m) (k1:m.rT.length≤h.rc) (k2:m.mT.length≤h.mc) (k3:m.lT.length≤h.lc) (ha:Asc w) (hv:Ab m=true)
    (hE:Rows BD 22 w w.heap.size A l) (hl:l.length≤1000) (hdk:BV l<0) :
    Calls Tryz.prog 9 #[.agg #[.slice h.s m.sT.length h.sc,.slice h.f m.fT.length h.fc,.slice h.r m.rT.length h.rc,.slice h.m m.mT.length h.mc,.slice h.l m.lT.length h.lc,.slice h.i m.iT.length h.ic,.int .i64 m.dT,.int .i64 m.oT,.int .i64 m.vT,.int .i64 m.aT,.slice h.u m.uT.length h.uc],.slice A l.length c] w (JF w []):=by
 have hb:=(Below.refl w.heap.size w).alloc (Nat.le_refl _) (.cells #[.slice h.s m.sT.length h.sc,.slice h.f m.fT.length h.fc,.slice h.r m.rT.length h.rc,.slice h.m m.mT.length h.mc,.slice h.l m.lT.length h.lc,.slice h.i m.iT.length h.ic,.int .i64 m.dT,.int .i64 m.oT,.int .i64 m.vT,.int .i64 m.aT,.slice h.u m.uT.length h.uc] 29)
 have HB:=hide hb
 have HM0:=hide (AB.new w 29 #[.slice h.s m.sT.length h.sc,.slice h.f m.fT.length h.fc,.slice h.r m.rT.length h.rc,.slice h.m m.mT.length h.mc,.slice h.l m.lT.length h.lc,.slice h.i m.iT.length h.ic,.int .i64 m.dT,.int .i64 m.oT,.int .i64 m.vT,.int .i64 m.aT,.slice h.u m.uT.length h.uc])
 have HDA:=hide (EU A c l _ (by omega) (hE.grow hb))
 have HV:=hide (fun W (hW:Below w.heap.size w W)=>D7 h m W (d.grow hW) k1 k2 k3 (ha.below (Nat.le_refl _) hW) hv)
 obtain⟨dk,hdk2⟩:∃ dk,dk=BV l:=⟨_,rfl⟩
 rw[← hdk2] at HDA hdk
 clear hb d k1 k2 k3 ha hv hE hdk2
 go_enter Tryz.func9,Tryz.ntmps9
 go_wp2_with (first
  | (go_at_call 30;refine HDA.out.mono ?_;rintro e w1 ⟨rfl,hb1⟩;have HB1:=hide (HB.out.trans (hb1.mono HB.out.size));have hm1:=HM0.out.below hb1 (by simp);obtain⟨a0,a1,a2,a3,a4,a5,a6,a7,a8,a9,a10⟩:=MB.cells hm1;have al:=hm1.lt;have HVV:=hide (HV.out w1 HB1.out);clear hb1 hm1)
  | (go_at_call 23;refine HVV.out.mono ?_;rintro e w2 ⟨rfl,hb2⟩;have HB2:=hide (HB1.out.trans (hb2.mono HB1.out.size));clear hb2))
 go_ret
 exact⟨none,0,rfl,fun k hk=>absurd hk (by simp),HB2.out⟩
theorem Rc (h:MH) (m:AC) (l:List EvM) (n:Nat) (A:Option Addr) (c:Nat) (w:World) (d:MD w w.heap.size h m) (k1:m.rT.length≤h.rc) (k2:m.mT.length≤h.mc) (k3:m.lT.length≤h.lc) (ha:Asc w) (hv:Ab m=true)
    (hE:Rows BD 22 w w.heap.size A l) (hl:l.length≤1000) (hlc:l.length≤c) (hcm:c≤9223372036854775807) (hold:∀ x∈l,x.old.length≤10) (hn:n<l.length) (hdk:BV l=(n:Int)) :
    Calls Tryz.prog 9 #[.agg #[.slice h.s m.sT.length h.sc,.slice h.f m.fT.length h.fc,.slice h.r m.rT.length h.rc,.slice h.m m.mT.length h.mc,.slice h.l m.lT.length h.lc,.slice h.i m.iT.length h.ic,.int .i64 m.dT,.int .i64 m.oT,.int .i64 m.vT,.int .i64 m.aT,.slice h.u m.uT.length h.uc],.slice A l.length c] w (JF w (Cv m (AX m l n) m.iT.length)):=by
 have hb:=(Below.refl w.heap.size w).alloc (Nat.le_refl _) (.cells #[.slice h.s m.sT.length h.sc,.slice h.f m.fT.length h.fc,.slice h.r m.rT.length h.rc,.slice h.m m.mT.length h.mc,.slice h.l m.lT.length h.lc,.slice h.i m.iT.length h.ic,.int .i64 m.dT,.int .i64 m.oT,.int .i64 m.vT,.int .i64 m.aT,.slice h.u m.uT.length h.uc] 29)
 have HB:=hide hb
 have HM0:=hide (AB.new w 29 #[.slice h.s m.sT.length h.sc,.slice h.f m.fT.length h.fc,.slice h.r m.rT.length h.rc,.slice h.m m.mT.length h.mc,.slice h.l m.lT.length h.lc,.slice h.i m.iT.length h.ic,.int .i64 m.dT,.int .i64 m.oT,.int .i64 m.vT,.int .i64 m.aT,.slice h.u m.uT.length h.uc])
 have HDA:=hide (EU A c l _ (by omega) (hE.grow hb))
 have HV:=hide (fun W (hW:Below w.heap.size w W)=>D7 h m W (d.grow hW) k1 k2 k3 (ha.below (Nat.le_refl _) hW) hv)
 obtain⟨s1,s2,s3,s4,s5,s6⟩:=Dh hv
 have htl:(l.take n).length=n:=by simp;omega
 have HP:=hide (fun W (hW:Below w.heap.size w W)=>Gi h m (l.take n) A c W (d.grow hW) k1 k2 k3 (ha.below (Nat.le_refl _) hW) hv ((hE.grow hW).take_ n) (by omega) (by omega) (fun y hy=>by have:=FI hv hy;omega) (by omega) (fun x hx=>hold x (List.mem_of_mem_take hx)))
 rw[htl] at HP
 have HRM:=hide (KN hv l n (by omega))
 have HD:=hide (fun W (hW:Below w.heap.size w W) (x:Int)=>G5 h m 4 x W (d.grow hW))
 have HPL:=hide (G8 m l n)
 obtain⟨pre,hpre⟩:=Ez m l n (by omega)
 obtain⟨q,hq⟩:∃ q,q=pre.length:=⟨_,rfl⟩
 have HLN:=hide (show(Ay m (l.take n)).length=q+1 by rw[hpre,hq];simp)
 have HLS:=hide (show ∀ hh:q<(Ay m (l.take n)).length,(Ay m (l.take n))[q]=AX m l n by intro hh;simp[hpre,hq])
 rw[hdk] at HDA
 obtain⟨P,hP⟩:∃ P,P=AX m l n:=⟨_,rfl⟩
 rw[← hP] at HRM HPL HLS ⊢
 have hn0:(0:Int)≤(n:Int):=by omega
 have hnI:¬ ((n:Int)<0):=by omega
 have hnc:(n:Int)≤(c:Int):=by omega
 have hil:m.iT.length≤100:=by omega
 have hq60:q≤1000:=by have:=FT m (l.take n);rw[HLN.out,htl] at this;omega
 clear hb d k1 k2 k3 ha hv hE hdk hpre hq hP s1 s2 s3 s4 s5 s6 htl hold
 go_enter Tryz.func9,Tryz.ntmps9
 go_wp2_with (first
  | (go_at_call 30;refine HDA.out.mono ?_;rintro e w1 ⟨rfl,hb1⟩;have HB1:=hide (HB.out.trans (hb1.mono HB.out.size));have hm1:=HM0.out.below hb1 (by simp);have HM1:=hide hm1;obtain⟨a0,a1,a2,a3,a4,a5,a6,a7,a8,a9,a10⟩:=MB.cells hm1;have al:=hm1.lt;have HVV:=hide (HV.out w1 HB1.out);clear hb1 hm1)
  | (go_at_call 23;refine HVV.out.mono ?_;rintro e w2 ⟨rfl,hb2⟩;have HB2:=hide (HB1.out.trans (hb2.mono HB1.out.size));have hm2:=HM1.out.below hb2 HM1.out.lt;have HS:=hide (MS.mk hm2 HB2.out);clear hm2 a0 a1 a2 a3 a4 a5 a6 a7 a8 a9 a10 al hb2))
 go_region_held3 (fun W=>(W.cell? ⟨w.heap.size,0,none⟩=some (.slice h.s m.sT.length h.sc)∧W.cell? ⟨w.heap.size,1,none⟩=some (.slice h.f m.fT.length h.fc)∧W.cell? ⟨w.heap.size,2,none⟩=some (.slice h.r m.rT.length h.rc)∧W.cell? ⟨w.heap.size,3,none⟩=some (.slice h.m m.mT.length h.mc)∧W.cell? ⟨w.heap.size,4,none⟩=some (.slice h.l m.lT.length h.lc)∧W.cell? ⟨w.heap.size,5,none⟩=some (.slice h.i m.iT.length h.ic)∧W.cell? ⟨w.heap.size,6,none⟩=some (.int .i64 m.dT)∧W.cell? ⟨w.heap.size,7,none⟩=some (.int .i64 m.oT)∧W.cell? ⟨w.heap.size,8,none⟩=some (.int .i64 m.vT)∧W.cell? ⟨w.heap.size,9,none⟩=some (.int .i64 m.aT)∧W.cell? ⟨w.heap.size,10,none⟩=some (.slice h.u m.uT.length h.uc))∧MS w #[.slice h.s m.sT.length h.sc,.slice h.f m.fT.length h.fc,.slice h.r m.rT.length h.rc,.slice h.m m.mT.length h.mc,.slice h.l m.lT.length h.lc,.slice h.i m.iT.length h.ic,.int .i64 m.dT,.int .i64 m.oT,.int .i64 m.vT,.int .i64 m.aT,.slice h.u m.uT.length h.uc] W)
  ((with_reducible (first|(go_keep;done)|exact⟨MS.cells HS.out.drew,HS.out.drew⟩|exact⟨MS.cells c3,c3⟩|(have hH:=(by assumption:_∧MS _ _ _);exact⟨MS.cells (MS.drew hH.2),MS.drew hH.2⟩))))
  ((go_at_call 7;have hH:=And.intro (MS.cells HS.out.drew) HS.out.drew;have hbw:=MS.b hH.2;refine(HP.out _ hbw).mono ?_;rintro e w3 ⟨A3,k3,rfl,_,_,hp3,hb⟩;have c3:=MS.grow hH.2 hb;clear hb hH hbw))
 obtain⟨b9,off9,A8,c8,e8,hb9,hx9,hP9⟩:=hp3 q (by rw[HLN.out];omega)
 rw[HLS.out] at hx9 hP9
 rw[HLN.out]
 subst e8
 have HMS:=hide c3
 have HP9:=hide hP9
 have HRP:=hide (show ∀ us∈P,us.length≤800 from fun us hus=>by have:=HRM.out.2 us hus;omega)
 have hPl:P.length≤100:=by have:=HPL.out;omega
 have hq0:(0:Int)≤(q:Int):=by omega
 clear hp3 c3 hP9
 go_wp2_with fail
 clear hx9 hb9
 go_loopw [7,35] (fun v i wr=>VQ m P w3 v i wr) (fun _ i _=>P.length - (intOf i).toNat)
 case atStart=>exact⟨0,Nat.zero_le _,rfl,hide (by rw[show Cv m P 0=[] from rfl];exact Cm.nil_ _ _),Below.refl _ _⟩
 case round =>
  obtain⟨k,hk,rfl,hO,hbr⟩:=hrel
  by_cases hlt:k<P.length
  · obtain ⟨b,off,A2,c2,hA,hb,x0,hu⟩:=HP9.out.at_ hlt
    obtain⟨us,hus⟩:∃ us,us=P[k]:=⟨_,rfl⟩
    have HUP:=hide (show AQ P ((k:Int)+1)=us by rw[DJ hlt,hus])
    have husl:us.length≤800:=by rw[hus];exact HRP.out _ (List.getElem_mem hlt)
    rw[← hus] at x0 hu
    have z0:=(hbr.cell (p:=⟨b,off+k,none⟩) hb).trans x0
    have zl:=Nat.lt_of_lt_of_le hb hbr.size
    have HU:=hide hu
    have HBR:=hide hbr
    have HLT:=hide hlt
    subst hA
    clear hu hbr hus x0 hb
    go_wp2_with fail
    clear z0 zl
    go_loopw [7,42] (fun v i wr=>VS m P k us w3 v i wr) (fun _ i _=>us.length - (intOf i).toNat)
    case atStart=>exact⟨0,Nat.zero_le _,rfl,hide (by simpa using hO.out),HBR.out⟩
    case round =>
     clear hO
     obtain⟨j,hj,rfl,hO,hbr⟩:=hrel
     by_cases hlj:j<us.length
     · obtain ⟨b1,o1,e1,hb1,y0,y1⟩:=(HU.out.keep (KT.below hbr)).at_ hlj
       obtain⟨u,hu⟩:∃ u,u=us[j]:=⟨_,rfl⟩
       rw[← hu] at y0 y1
       have hfx:(us.take (j+1)).flatMap (Dv m k)=(us.take j).flatMap (Dv m k)++Dv m k u:=by
        rw[List.take_succ_eq_append_getElem hlj,List.flatMap_append,hu];simp
       have HFX:=hide hfx
       have HLJ:=hide hlj
       obtain⟨L,hL⟩:∃ L,L=Cv m P k++(us.take j).flatMap (Dv m k):=⟨_,rfl⟩
       have HLL:=hide (show L.length≤100000 by
        rw[hL,List.length_append]
        have q1:=Fu (m:=m) HRM.out k
        have q2:=Jn (Ih m k) (us.take j)
        have q3:k*16≤100*16:=Nat.mul_le_mul (by have:=HLT.out;omega) (Nat.le_refl _)
        rw[List.length_take] at q2;omega)
       have HL:=hide hL
       rw[← hL] at hO
       have hba:Below w3.heap.size w3 (wr.alloc (.cells #[.int .i64 u.1,.int .i64 u.2] 72)):=hbr.alloc hbr.size _
       have HS:=hide (show DD w h m wr.heap.size u w3 (wr.alloc (.cells #[.int .i64 u.1,.int .i64 u.2] 72)) from⟨HMS.out.m.below hba HMS.out.m.lt,AB.new wr _ _,hba⟩)
       obtain⟨dv,hdv⟩:∃ dv,dv=BN m 4 u.1:=⟨_,rfl⟩
       have HC:=hide (HD.out _ (HMS.out.b.trans (HS.out.drew.b.mono HMS.out.b.size)) u.1)
       rw[show EC m 4 u.1 (wr.alloc (.cells #[.int .i64 u.1,.int .i64 u.2] 72)).drew=fun e w'=>e=.returned (.int .i64 dv)∧Below (wr.alloc (.cells #[.int .i64 u.1,.int .i64 u.2] 72)).drew.heap.size (wr.alloc (.cells #[.int .i64 u.1,.int .i64 u.2] 72)).drew w' by rw[hdv];rfl] at HC
       have HDU:=hide (show Dv m k u=if dv=m.dT then [((k:Int)+1,if u.2=2 then 2 else 0)] else [] by rw[Dv,hdv])
       have hB:∀ b:Bool,b=false∨b=true:=fun b=>by cases b <;> simp
       have hbl1:=Nat.lt_of_lt_of_le hb1 (Nat.le_refl _)
       subst e1
       clear hfx hu hL hba hbr hdv hlj
       rcases hB (dv == m.dT) with hq|hq
       · have HE:=hide (show Dv m k u=[] by rw[HDU.out,if_neg (by simpa using hq)])
         go_wp2_with fail
         go_region_held3 (fun W=>((W.cell? ⟨w.heap.size,0,none⟩=some (.slice h.s m.sT.length h.sc)∧W.cell? ⟨w.heap.size,1,none⟩=some (.slice h.f m.fT.length h.fc)∧W.cell? ⟨w.heap.size,2,none⟩=some (.slice h.r m.rT.length h.rc)∧W.cell? ⟨w.heap.size,3,none⟩=some (.slice h.m m.mT.length h.mc)∧W.cell? ⟨w.heap.size,4,none⟩=some (.slice h.l m.lT.length h.lc)∧W.cell? ⟨w.heap.size,5,none⟩=some (.slice h.i m.iT.length h.ic)∧W.cell? ⟨w.heap.size,6,none⟩=some (.int .i64 m.dT)∧W.cell? ⟨w.heap.size,7,none⟩=some (.int .i64 m.oT)∧W.cell? ⟨w.heap.size,8,none⟩=some (.int .i64 m.vT)∧W.cell? ⟨w.heap.size,9,none⟩=some (.int .i64 m.aT)∧W.cell? ⟨w.heap.size,10,none⟩=some (.slice h.u m.uT.length h.uc))∧W.cell? ⟨wr.heap.size,0,none⟩=some (.int .i64 u.1)∧W.cell? ⟨wr.heap.size,1,none⟩=some (.int .i64 u.2))∧DD w h m wr.heap.size u w3 W)
          ((with_reducible (first|(go_keep;done)|exact⟨DD.cells HS.out.drew,HS.out.drew⟩|exact⟨DD.cells c7,c7⟩|(have hH:=(by assumption:_∧DD _ _ _ _ _ _ _);exact⟨DD.cells (DD.drew hH.2),DD.drew hH.2⟩))))
          (((with_reducible refine HC.out.mono ?_);rintro e w5 ⟨rfl,hb5⟩;have c7:=DD.grow HS.out.drew hb5))
         have HO5:=hide ((hO.out.below ((Below.refl wr.heap.size wr).alloc (Nat.le_refl _) (.cells #[.int .i64 u.1,.int .i64 u.2] 72))).below ((Below.refl _ _).drew.trans hb5))
         go_wp2_with fail
         go_roundw
         case rel=>exact⟨j+1,HLJ.out,by go_num,hide (by rw[HFX.out,HE.out,List.append_nil,← HL.out];exact HO5.out),c7.b⟩
         case measure=>have:=HLJ.out;simp[intOf];omega
       · rcases hB (u.2 == 2) with hp|hp
         · have HE:=hide (show Dv m k u=[((k:Int)+1,0)] by rw[HDU.out,if_pos (by simpa using hq)];simp at hp;simp[hp])
           go_wp2_with fail
           go_region_held3 (fun W=>((W.cell? ⟨w.heap.size,0,none⟩=some (.slice h.s m.sT.length h.sc)∧W.cell? ⟨w.heap.size,1,none⟩=some (.slice h.f m.fT.length h.fc)∧W.cell? ⟨w.heap.size,2,none⟩=some (.slice h.r m.rT.length h.rc)∧W.cell? ⟨w.heap.size,3,none⟩=some (.slice h.m m.mT.length h.mc)∧W.cell? ⟨w.heap.size,4,none⟩=some (.slice h.l m.lT.length h.lc)∧W.cell? ⟨w.heap.size,5,none⟩=some (.slice h.i m.iT.length h.ic)∧W.cell? ⟨w.heap.size,6,none⟩=some (.int .i64 m.dT)∧W.cell? ⟨w.heap.size,7,none⟩=some (.int .i64 m.oT)∧W.cell? ⟨w.heap.size,8,none⟩=some (.int .i64 m.vT)∧W.cell? ⟨w.heap.size,9,none⟩=some (.int .i64 m.aT)∧W.cell? ⟨w.heap.size,10,none⟩=some (.slice h.u m.uT.length h.uc))∧W.cell? ⟨wr.heap.size,0,none⟩=some (.int .i64 u.1)∧W.cell? ⟨wr.heap.size,1,none⟩=some (.int .i64 u.2))∧DD w h m wr.heap.size u w3 W)
            ((with_reducible (first|(go_keep;done)|exact⟨DD.cells HS.out.drew,HS.out.drew⟩|exact⟨DD.cells c7,c7⟩|(have hH:=(by assumption:_∧DD _ _ _ _ _ _ _);exact⟨DD.cells (DD.drew hH.2),DD.drew hH.2⟩))))
            (((with_reducible refine HC.out.mono ?_);rintro e w5 ⟨rfl,hb5⟩;have c7:=DD.grow HS.out.drew hb5))
           have HO5:=hide ((hO.out.below ((Below.refl wr.heap.size wr).alloc (Nat.le_refl _) (.cells #[.int .i64 u.1,.int .i64 u.2] 72))).below ((Below.refl _ _).drew.trans hb5))
           have u1:=c7.u.cell 1
           have ul:=c7.u.lt
           simp at u1
           have hb6:Below w5.heap.size w5 ((w5.alloc (.cells #[.int .i64 ((k:Int)+1),.int .i64 0,.int .i64 0,.int .i64 0,.int .i64 0] 75)).alloc (.cells #[.int .i64 ((k:Int)+1),.int .i64 0,.int .i64 0,.int .i64 0,.int .i64 0] 75)):=((Below.refl _ _).alloc (Nat.le_refl _) _).alloc (by simp) _
           have HB6:=hide (c7.b.trans (hb6.mono c7.b.size))
           have HO6:=hide (HO5.out.below hb6)
           have hr6:=JI (w5.alloc (.cells #[.int .i64 ((k:Int)+1),.int .i64 0,.int .i64 0,.int .i64 0,.int .i64 0] 75)) ((k:Int)+1) 0
           rw[World.size_alloc] at hr6
           have HR6:=hide hr6
           have hlL:L.length+1≤1000000:=by have:=HLL.out;omega
           clear hb6 hr6 c7 hb5
           go_wp2_with (at_builtin;refine FM rfl _ _ rfl w3.heap.size _ L rfl HO6.out _ _ _ ((k:Int)+1,0) rfl HR6.out hlL HB6.out.size ?_;intro v3 w6 ho3 hg3;have ho3:=hide ho3;have hg3:=hide hg3)
           have hb7:=HB6.out.grown hg3.out HB6.out.size (fun g hg=>(HO6.out.lt g hg).1)
           go_roundw
           case rel=>exact⟨j+1,HLJ.out,by go_num,hide (by rw[HFX.out,HE.out,← List.append_assoc,← HL.out];exact ho3.out),hb7⟩
           case measure=>have:=HLJ.out;simp[intOf];omega
         · have HE:=hide (show Dv m k u=[((k:Int)+1,2)] by rw[HDU.out,if_pos (by simpa using hq)];simp at hp;simp[hp])
           go_wp2_with fail
           go_region_held3 (fun W=>((W.cell? ⟨w.heap.size,0,none⟩=some (.slice h.s m.sT.length h.sc)∧W.cell? ⟨w.heap.size,1,none⟩=some (.slice h.f m.fT.length h.fc)∧W.cell? ⟨w.heap.size,2,none⟩=some (.slice h.r m.rT.length h.rc)∧W.cell? ⟨w.heap.size,3,none⟩=some (.slice h.m m.mT.length h.mc)∧W.cell? ⟨w.heap.size,4,none⟩=some (.slice h.l m.lT.length h.lc)∧W.cell? ⟨w.heap.size,5,none⟩=some (.slice h.i m.iT.length h.ic)∧W.cell? ⟨w.heap.size,6,none⟩=some (.int .i64 m.dT)∧W.cell? ⟨w.heap.size,7,none⟩=some (.int .i64 m.oT)∧W.cell? ⟨w.heap.size,8,none⟩=some (.int .i64 m.vT)∧W.cell? ⟨w.heap.size,9,none⟩=some (.int .i64 m.aT)∧W.cell? ⟨w.heap.size,10,none⟩=some (.slice h.u m.uT.length h.uc))∧W.cell? ⟨wr.heap.size,0,none⟩=some (.int .i64 u.1)∧W.cell? ⟨wr.heap.size,1,none⟩=some (.int .i64 u.2))∧DD w h m wr.heap.size u w3 W)
            ((with_reducible (first|(go_keep;done)|exact⟨DD.cells HS.out.drew,HS.out.drew⟩|exact⟨DD.cells c7,c7⟩|(have hH:=(by assumption:_∧DD _ _ _ _ _ _ _);exact⟨DD.cells (DD.drew hH.2),DD.drew hH.2⟩))))
            (((with_reducible refine HC.out.mono ?_);rintro e w5 ⟨rfl,hb5⟩;have c7:=DD.grow HS.out.drew hb5))
           have HO5:=hide ((hO.out.below ((Below.refl wr.heap.size wr).alloc (Nat.le_refl _) (.cells #[.int .i64 u.1,.int .i64 u.2] 72))).below ((Below.refl _ _).drew.trans hb5))
           have u1:=c7.u.cell 1
           have ul:=c7.u.lt
           simp at u1
           have hb6:Below w5.heap.size w5 ((w5.alloc (.cells #[.int .i64 ((k:Int)+1),.int .i64 0,.int .i64 2,.int .i64 0,.int .i64 0] 75)).alloc (.cells #[.int .i64 ((k:Int)+1),.int .i64 0,.int .i64 2,.int .i64 0,.int .i64 0] 75)):=((Below.refl _ _).alloc (Nat.le_refl _) _).alloc (by simp) _
           have HB6:=hide (c7.b.trans (hb6.mono c7.b.size))
           have HO6:=hide (HO5.out.below hb6)
           have hr6:=JI (w5.alloc (.cells #[.int .i64 ((k:Int)+1),.int .i64 0,.int .i64 2,.int .i64 0,.int .i64 0] 75)) ((k:Int)+1) 2
           rw[World.size_alloc] at hr6
           have HR6:=hide hr6
           have hlL:L.length+1≤1000000:=by have:=HLL.out;omega
           clear hb6 hr6 c7 hb5
           go_wp2_with (at_builtin;refine FM rfl _ _ rfl w3.heap.size _ L rfl HO6.out _ _ _ ((k:Int)+1,2) rfl HR6.out hlL HB6.out.size ?_;intro v3 w6 ho3 hg3;have ho3:=hide ho3;have hg3:=hide hg3)
           have hb7:=HB6.out.grown hg3.out HB6.out.size (fun g hg=>(HO6.out.lt g hg).1)
           go_roundw
           case rel=>exact⟨j+1,HLJ.out,by go_num,hide (by rw[HFX.out,HE.out,← List.append_assoc,← HL.out];exact ho3.out),hb7⟩
           case measure=>have:=HLJ.out;simp[intOf];omega
     · obtain rfl:j=us.length:=by omega
       have hO2:=hO.out
       rw[List.take_length] at hO2
       have HO2:=hide hO2
       clear hO hO2
       go_wp2_with fail
       go_roundw
       case rel=>exact⟨k+1,HLT.out,by go_num,hide (by rw[Gy,Hl,HUP.out];exact HO2.out),hbr⟩
       case measure=>have:=HLT.out;simp[intOf];omega
  · obtain rfl:k=P.length:=by omega
    have hO2:=hO.out
    rw[HPL.out] at hO2
    obtain⟨A9,c9,rfl,hrd⟩:=hO2.rd
    have HRD:=hide hrd
    clear hO hO2 hrd
    go_wp2_with fail
    go_ret
    exact⟨A9,c9,rfl,HRD.out,HMS.out.b.trans (hbr.mono HMS.out.b.size)⟩
theorem Qb (h:MH) (m:AC) (l:List EvM) (A:Option Addr) (c:Nat) (w:World) (d:MD w w.heap.size h m) (k1:m.rT.length≤h.rc) (k2:m.mT.length≤h.mc) (k3:m.lT.length≤h.lc) (ha:Asc w) (hv:Ab m=true)
    (hE:Rows BD 22 w w.heap.size A l) (hl:l.length≤1000) (hlc:l.length≤c) (hcm:c≤9223372036854775807) (hold:∀ x∈l,x.old.length≤10) :
    Calls Tryz.prog 9 #[.agg #[.slice h.s m.sT.length h.sc,.slice h.f m.fT.length h.fc,.slice h.r m.rT.length h.rc,.slice h.m m.mT.length h.mc,.slice h.l m.lT.length h.lc,.slice h.i m.iT.length h.ic,.int .i64 m.dT,.int .i64 m.oT,.int .i64 m.vT,.int .i64 m.aT,.slice h.u m.uT.length h.uc],.slice A l.length c] w (JF w (EH m l)):=by
 unfold EH
 by_cases hd:BV l<0
 · rw[if_pos hd];exact Sy h m l A c w d k1 k2 k3 ha hv hE hl hd
 · rw[if_neg hd]
   obtain⟨h1,h2⟩:=Im (p:=fun x:EvM=>decide (x.kind=5)) (l:=l) (by unfold BV at hd;omega)
   exact Rc h m l _ A c w d k1 k2 k3 ha hv hE hl hlc hcm hold h1 h2
theorem Gx (A:Option Addr) (c:Nat) (l:List EvM) (w:World) (hl:l.length≤1000) (h:Rows BD 22 w w.heap.size A l) :
    Calls Tryz.prog 42 #[.slice A l.length c] w fun e w'=>e=.returned (.int .i64 (BV l))∧w=w':=by
 go_enter Tryz.func42,Tryz.ntmps42
 go_wp2_with fail
 go_loop [3] (fun i=>∃ k:Nat,k≤l.length∧i=.int .i64 k∧Hid (∀ j (hj:j<l.length),j<k→(fun u:EvM=>decide (u.kind=5)) l[j]=false)) (fun i=>l.length - (intOf i).toNat)
 case atStart=>exact⟨0,Nat.zero_le _,rfl,fun j hj h0=>absurd h0 (by omega)⟩
 case round =>
  obtain⟨k,hk,rfl,hs⟩:=hrel
  by_cases hlt:k<l.length
  · obtain ⟨x,hx⟩:∃ x,l[k]=x:=⟨_,rfl⟩
    obtain⟨b,off,j,hA,hb,_,_,_,hc⟩:=h.ev hlt hx
    have x0:w.cell? ⟨b,off+k*22,none⟩=some (.int .i64 x.kind):=hc 0 _ rfl
    subst hA
    have HXX:=hide hx
    clear hc hx
    by_cases e1:x.kind=5
    · have g1:(x.kind == 5)=true:=by simpa using e1
      have HF:=hide (CF (p:=fun u:EvM=>decide (u.kind=5)) hlt (by rw[HXX.out];simpa using e1) hs)
      clear e1
      go_wp2_with fail
      go_ret
      exact⟨AJ (by rw[BV,HF.out];rfl),rfl⟩
    · have g1:(x.kind == 5)=false:=by simpa using e1
      have HK:=hide e1
      clear e1
      go_wp2_with fail
      go_round
      case rel=>exact⟨k+1,by omega,by go_num,fun q hq h1=>by
       rcases Nat.lt_or_ge q k with h2|h2
       · exact hs q hq h2
       · obtain rfl:q=k:=by omega
         rw[HXX.out];simpa using HK.out⟩
      case measure=>simp[intOf];omega
  · have HF:=hide (Ba (p:=fun u:EvM=>decide (u.kind=5)) fun j hj=>hs j hj (by omega))
    go_wp2_with fail
    go_ret
    exact⟨AJ (by rw[BV,HF.out];rfl),rfl⟩
theorem OZ(p:AA)(i k:Nat):GV p ((i:Int)+1) ((k:Int)+1)=(MF (AQ p ((i:Int)+1)) k).map (·.2):=rfl
theorem Q3 {l:List AO} {k:Nat} {u:AO} (h:MF l k=some u):u.1=(k:Int)+1:=by
 have:=List.find?_some h
 simpa using this
theorem Pf {w:World} {B B':Nat} {v:Value} {l:List (Int×Int)} (h:Cm B' w v l) (hB:B≤B'):Cm B w v l:=by
 refine⟨h.1,?_⟩
 rcases h.2 with h0|⟨g,cap,cur,e1,e2,h3⟩
 · exact .inl h0
 · exact .inr ⟨g,cap,cur,e1,by omega,h3⟩
theorem Cm.ne {B g:Nat} {w:World} {v:Value} {l:List (Int×Int)} {T:TypeId} {cs:Array Value} (h:Cm B w v l) (hb:AB w g T cs) (hne:T≠75):v.ownBlock≠some g:=by
 rintro e
 rcases h.2 with⟨rfl,_⟩|⟨g2,cap,cur,rfl,_,hh,_⟩
 · cases e
 · obtain rfl:g2=g:=Option.some.inj e
   rw[AB] at hb
   have:=hb.symm.trans hh
   simp at this
   exact hne this.2
structure Bz (w:World) (h:MH) (m:AC) (P:AA) (bp:Nat) (A8:Option Addr) (c8:Nat) (W:World):Prop where
 b:Below w.heap.size w W
 mo:AB W w.heap.size 29 #[.slice h.s m.sT.length h.sc,.slice h.f m.fT.length h.fc,.slice h.r m.rT.length h.rc,.slice h.m m.mT.length h.mc,.slice h.l m.lT.length h.lc,.slice h.i m.iT.length h.ic,.int .i64 m.dT,.int .i64 m.oT,.int .i64 m.vT,.int .i64 m.aT,.slice h.u m.uT.length h.uc]
 pl:AB W bp 56 #[.slice A8 P.length c8]
 pt:PT W (.slice A8 P.length c8) P
theorem Bz.grow {w:World} {h:MH} {m:AC} {P:AA} {bp:Nat} {A8:Option Addr} {c8:Nat} {W W':World} (s:Bz w h m P bp A8 c8 W) (hb:Below W.heap.size W W'):Bz w h m P bp A8 c8 W' :=
 ⟨s.b.trans (hb.mono s.b.size),s.mo.below hb s.mo.lt,s.pl.below hb s.pl.lt,s.pt.below hb⟩
theorem Bz.drew{w:World}{h:MH}{m:AC}{P:AA}{bp:Nat}{A8:Option Addr}{c8:Nat}{W:World}(s:Bz w h m P bp A8 c8 W):Bz w h m P bp A8 c8 W.drew:=s.grow (Below.refl _ W).drew
theorem Bz.appended {w:World} {h:MH} {m:AC} {P:AA} {bp:Nat} {A8:Option Addr} {c8:Nat} {W W':World} {v:Value} {l:List (Int×Int)} (s:Bz w h m P bp A8 c8 W) (ho:Cm w.heap.size W v l) (hg:W.grownBy W' v.ownBlock):Bz w h m P bp A8 c8 W' :=
 ⟨s.b.grown hg s.b.size (fun g e=>(ho.lt g e).1),s.mo.grown hg (fun e=>ho.ne s.mo (by decide) e.symm),s.pl.grown hg (fun e=>ho.ne s.pl (by decide) e.symm),s.pt.keep (KT.grown ho (by decide) hg) (KT.grown ho (by decide) hg)⟩
theorem Bz.cells{w:World}{h:MH}{m:AC}{P:AA}{bp:Nat}{A8:Option Addr}{c8:Nat}{W:World}(s:Bz w h m P bp A8 c8 W):W.cell? ⟨w.heap.size,0,none⟩=some (.slice h.s m.sT.length h.sc)∧W.cell? ⟨w.heap.size,1,none⟩=some (.slice h.f m.fT.length h.fc)∧W.cell? ⟨w.heap.size,2,none⟩=some (.slice h.r m.rT.length h.rc)∧W.cell? ⟨w.heap.size,3,none⟩=some (.slice h.m m.mT.length h.mc)∧W.cell? ⟨w.heap.size,4,none⟩=some (.slice h.l m.lT.length h.lc)∧W.cell? ⟨w.heap.size,5,none⟩=some (.slice h.i m.iT.length h.ic)∧W.cell? ⟨w.heap.size,6,none⟩=some (.int .i64 m.dT)∧W.cell? ⟨w.heap.size,7,none⟩=some (.int .i64 m.oT)∧W.cell? ⟨w.heap.size,8,none⟩=some (.int .i64 m.vT)∧W.cell? ⟨w.heap.size,9,none⟩=some (.int .i64 m.aT)∧W.cell? ⟨w.heap.size,10,none⟩=some (.slice h.u m.uT.length h.uc):=MB.cells s.mo
def VT(w:World)(h:MH)(m:AC)(P:AA)(bp:Nat)(A8:Option Addr)(c8:Nat)(v i:Value)(wr:World):Prop:=∃ k:Nat,k≤m.iT.length∧i=.int .i64 ((k:Int)+1)∧Hid (Cm w.heap.size wr v (Cv m P k))∧Bz w h m P bp A8 c8 wr
def VU(w:World)(h:MH)(m:AC)(P:AA)(bp:Nat)(A8:Option Addr)(c8:Nat)(k:Nat)(v i:Value)(wr:World):Prop:=∃ j:Nat,j≤m.mT.length∧i=.int .i64 ((j:Int)+1)∧Hid (Cm w.heap.size wr v (Er m P k j))∧Bz w h m P bp A8 c8 wr
theorem Qa (h : MH) (m:AC) (l:List EvM) (n:Nat) (A:Option Addr) (c:Nat) (w:World) (d:MD w w.heap.size h m) (hv:Ab m=true)
    (hE:Rows BD 22 w w.heap.size A l) (hl:l.length≤60) (hlc:l.length≤c) (hcm:c≤9223372036854775807) (hold:∀ x∈l,x.old.length≤10) (hn:n<l.length) (hdk:BV l=(n:Int)) :
    Calls Tryz.prog 43 #[.agg #[.slice h.s m.sT.length h.sc,.slice h.f m.fT.length h.fc,.slice h.r m.rT.length h.rc,.slice h.m m.mT.length h.mc,.slice h.l m.lT.length h.lc,.slice h.i m.iT.length h.ic,.int .i64 m.dT,.int .i64 m.oT,.int .i64 m.vT,.int .i64 m.aT,.slice h.u m.uT.length h.uc],.slice A l.length c] w (JF w (Cv m (AX m l n) m.iT.length)):=by
 have hb:=((Below.refl w.heap.size w).alloc (Nat.le_refl _) (.cells #[.slice h.s m.sT.length h.sc,.slice h.f m.fT.length h.fc,.slice h.r m.rT.length h.rc,.slice h.m m.mT.length h.mc,.slice h.l m.lT.length h.lc,.slice h.i m.iT.length h.ic,.int .i64 m.dT,.int .i64 m.oT,.int .i64 m.vT,.int .i64 m.aT,.slice h.u m.uT.length h.uc] 29)).alloc (by simp) (.cells #[] 75)
 have HM0:=hide ((AB.new w 29 #[.slice h.s m.sT.length h.sc,.slice h.f m.fT.length h.fc,.slice h.r m.rT.length h.rc,.slice h.m m.mT.length h.mc,.slice h.l m.lT.length h.lc,.slice h.i m.iT.length h.ic,.int .i64 m.dT,.int .i64 m.oT,.int .i64 m.vT,.int .i64 m.aT,.slice h.u m.uT.length h.uc]).alloc (.cells #[] 75))
 have HDA:=hide (Gx A c l _ (by omega) (hE.grow hb))
 obtain⟨s1,s2,s3,s4,s5,s6⟩:=Dh hv
 have htl:(l.take n).length=n:=by simp;omega
 have HP:=hide (fun W (hW:Below w.heap.size w W)=>Ph h m (l.take n) A c W (d.grow hW) (fun y hy=>KW hv hy) ((hE.grow hW).take_ n) (by omega) (by omega) (fun y hy=>by have:=FI hv hy;omega) (by omega) (fun x hx=>hold x (List.mem_of_mem_take hx)))
 rw[htl] at HP
 have HRM:=hide (Room.placeAt (m:=m) (l:=l) (by omega) (fun y hy=>by have:=FI hv hy;omega) hold n)
 have HD:=hide (fun W (hW:Below w.heap.size w W) (x:Int)=>H8 h m 4 x W (d.grow hW))
 have HSO:=hide (GU hv l n (by omega))
 have HPL:=hide (G8 m l n)
 obtain⟨pre,hpre⟩:=Ez m l n (by omega)
 obtain⟨q,hq⟩:∃ q,q=pre.length:=⟨_,rfl⟩
 have HLN:=hide (show(Ay m (l.take n)).length=q+1 by rw[hpre,hq];simp)
 have HLS:=hide (show ∀ hh:q<(Ay m (l.take n)).length,(Ay m (l.take n))[q]=AX m l n by intro hh;simp[hpre,hq])
 have HOS:=hide (Cm.empty (w.alloc (.cells #[.slice h.s m.sT.length h.sc,.slice h.f m.fT.length h.fc,.slice h.r m.rT.length h.rc,.slice h.m m.mT.length h.mc,.slice h.l m.lT.length h.lc,.slice h.i m.iT.length h.ic,.int .i64 m.dT,.int .i64 m.oT,.int .i64 m.vT,.int .i64 m.aT,.slice h.u m.uT.length h.uc] 29)))
 have HS:=hide (MS.mk HM0.out hb)
 rw[hdk] at HDA
 obtain⟨P,hP⟩:∃ P,P=AX m l n:=⟨_,rfl⟩
 rw[← hP] at HRM HLS HSO HPL ⊢
 have hn0:(0:Int)≤(n:Int):=by omega
 have hnI:¬ ((n:Int)<0):=by omega
 have hnc:(n:Int)≤(c:Int):=by omega
 have hil:m.iT.length≤100:=by omega
 have hml:m.mT.length≤100:=by omega
 have hq60:q≤60:=by have:=FT m (l.take n);rw[HLN.out,htl] at this;omega
 clear hb d hv hE hdk hpre hq hP s1 s2 s3 s4 s5 s6 htl hold
 go_enter Tryz.func43,Tryz.ntmps43
 go_wp2_with (go_at_call 42;refine HDA.out.mono ?_;rintro e w1 ⟨rfl,rfl⟩)
 go_region_held3 (fun W=>(W.cell? ⟨w.heap.size,0,none⟩=some (.slice h.s m.sT.length h.sc)∧W.cell? ⟨w.heap.size,1,none⟩=some (.slice h.f m.fT.length h.fc)∧W.cell? ⟨w.heap.size,2,none⟩=some (.slice h.r m.rT.length h.rc)∧W.cell? ⟨w.heap.size,3,none⟩=some (.slice h.m m.mT.length h.mc)∧W.cell? ⟨w.heap.size,4,none⟩=some (.slice h.l m.lT.length h.lc)∧W.cell? ⟨w.heap.size,5,none⟩=some (.slice h.i m.iT.length h.ic)∧W.cell? ⟨w.heap.size,6,none⟩=some (.int .i64 m.dT)∧W.cell? ⟨w.heap.size,7,none⟩=some (.int .i64 m.oT)∧W.cell? ⟨w.heap.size,8,none⟩=some (.int .i64 m.vT)∧W.cell? ⟨w.heap.size,9,none⟩=some (.int .i64 m.aT)∧W.cell? ⟨w.heap.size,10,none⟩=some (.slice h.u m.uT.length h.uc))∧MS w #[.slice h.s m.sT.length h.sc,.slice h.f m.fT.length h.fc,.slice h.r m.rT.length h.rc,.slice h.m m.mT.length h.mc,.slice h.l m.lT.length h.lc,.slice h.i m.iT.length h.ic,.int .i64 m.dT,.int .i64 m.oT,.int .i64 m.vT,.int .i64 m.aT,.slice h.u m.uT.length h.uc] W)
  ((with_reducible (first|(go_keep;done)|exact⟨MS.cells HS.out.drew,HS.out.drew⟩|exact⟨MS.cells c3,c3⟩|(have hH:=(by assumption:_∧MS _ _ _);exact⟨MS.cells (MS.drew hH.2),MS.drew hH.2⟩))))
  ((go_at_call 86;have hH:=And.intro (MS.cells HS.out.drew) HS.out.drew;have hbw:=MS.b hH.2;refine(HP.out _ hbw).mono ?_;rintro e w3 ⟨A3,k3,rfl,_,_,hp3,hb⟩;have HB3:=hide hb;have c3:=MS.grow hH.2 hb;clear hb hH hbw))
 obtain⟨b9,off9,A8,c8,e8,hb9,hx9,hP9⟩:=hp3 q (by rw[HLN.out];omega)
 rw[HLS.out] at hx9 hP9
 rw[HLN.out]
 subst e8
 have hPl:P.length≤100:=by have:=HPL.out;omega
 have hq0:(0:Int)≤(q:Int):=by omega
 have hb4:Below w3.heap.size w3 (w3.alloc (.cells #[.slice A8 P.length c8] 56)):=(Below.refl _ _).alloc (Nat.le_refl _) _
 have HS4:=hide (show Bz w h m P w3.heap.size A8 c8 (w3.alloc (.cells #[.slice A8 P.length c8] 56)) from⟨c3.b.trans (hb4.mono c3.b.size),c3.m.below hb4 c3.m.lt,AB.new _ _ _,hP9.below hb4⟩)
 have HO4:=hide (show Cm w.heap.size (w3.alloc (.cells #[.slice A8 P.length c8] 56)) (.slice (some ⟨w.heap.size+1,0,none⟩) 0 0) (Cv m P 0) by
  have h1:=HOS.out
  rw[World.size_alloc] at h1
  have h2:=Pf (h1.below ((Below.refl _ _).drew.trans HB3.out)) (Nat.le_succ w.heap.size)
  exact h2.below hb4)
 clear hp3 c3 hP9 hb4
 go_wp2_with fail
 clear hx9 hb9
 go_loopw [5,9] (fun v i wr=>VT w h m P w3.heap.size A8 c8 v i wr) (fun _ i _=>m.iT.length+1 - (intOf i).toNat)
 case atStart=>exact⟨0,Nat.zero_le _,rfl,HO4,HS4.out⟩
 case round =>
  clear HO4 HS4
  obtain⟨k,hk,rfl,hO,hS⟩:=hrel
  have HS:=hide hS
  obtain⟨a0,a1,a2,a3,a4,a5,a6,a7,a8,a9,a10⟩:=Bz.cells hS
  have al:=hS.mo.lt
  by_cases hlt:k<m.iT.length
  · have hlI : (k:Int)+1≤(m.iT.length:Int):=by omega
    have HLT:=hide hlt
    clear hS
    go_wp2_with fail
    clear a0 a1 a2 a3 a4 a5 a6 a7 a8 a9 a10 al
    go_loopw [5,10] (fun v i wr=>VU w h m P w3.heap.size A8 c8 k v i wr) (fun _ i _=>m.mT.length+1 - (intOf i).toNat)
    case atStart=>exact⟨0,Nat.zero_le _,rfl,hide (by rw[PD];exact hO.out),HS.out⟩
    case round =>
     clear hO HS
     obtain⟨j,hj,rfl,hO,hS⟩:=hrel
     have HS:=hide hS
     obtain⟨a0,a1,a2,a3,a4,a5,a6,a7,a8,a9,a10⟩:=Bz.cells hS
     have al:=hS.mo.lt
     have p0:=hS.pl.cell 0
     have pl:=hS.pl.lt
     simp at p0
     by_cases hlj:j<m.mT.length
     · have hjI:(j:Int)+1≤(m.mT.length:Int):=by omega
       have HLJ:=hide hlj
       have HST:=hide (RH A8 c8 P ((k:Int)+1) ((j:Int)+1) wr hS.pt.pr (by omega) (by have:=HRM.out.unitsP ((k:Int)+1);omega))
       rw[OZ] at HST
       have HKS:=hide (O9 m P k j)
       obtain⟨L,hL⟩:∃ L,L=Er m P k j:=⟨_,rfl⟩
       have HLL:=hide (show L.length≤100000 by
        rw[hL]
        have q1:=QZ (m:=m) HRM.out k j
        have q3:k*(100+11*n)≤100*760:=Nat.mul_le_mul (by have:=HLT.out;omega) (by omega)
        omega)
       rw[← hL] at hO HKS
       cases hlk:MF (AQ P ((k:Int)+1)) j with
       | none =>
         rw[hlk] at HST
         have HE:=hide (show Eo m P k j=[] by rw[Eo,hlk])
         clear hL hlk hS
         go_wp2_with (go_at_call 87;refine HST.out.mono ?_;rintro e w5 ⟨rfl,hb5⟩;have hs5:=HS.out.grow hb5;obtain⟨a0,a1,a2,a3,a4,a5,a6,a7,a8,a9,a10⟩:=Bz.cells hs5;have al:=hs5.mo.lt;have HS5:=hide hs5;have HO5:=hide (hO.out.below hb5);clear hs5 hb5)
         go_quiet (fail)
         go_wp2_with fail
         go_roundw
         case rel=>exact⟨j+1,HLJ.out,by go_num,hide (by rw[HKS.out,HE.out,List.append_nil];exact HO5.out.below (AY (Below.refl _ _) _)),HS5.out.grow (AY (Below.refl _ _) _)⟩
         case measure=>have:=HLJ.out;simp[intOf];omega
       | some u =>
         rw[hlk] at HST
         have hum:=Q3 hlk
         obtain⟨dv,hdv⟩:∃ dv,dv=BN m 4 u.1:=⟨_,rfl⟩
         have HDU:=hide (show Eo m P k j=if dv=m.dT then [((k:Int)+1,if u.2=2 then 2 else 0)] else [] by rw[Eo,hlk,hdv];rfl)
         have HD4:=hide (fun W (hW:Below w.heap.size w W)=>HD.out W hW ((j:Int)+1))
         rw[← hum,← hdv] at HD4
         rw[hum] at HD4
         have hB:∀ b:Bool,b=false∨b=true:=fun b=>by cases b <;> simp
         clear hL hlk hS hdv hum
         go_wp2_with (go_at_call 87;refine HST.out.mono ?_;rintro e w5 ⟨rfl,hb5⟩;have hs5:=HS.out.grow hb5;obtain⟨a0,a1,a2,a3,a4,a5,a6,a7,a8,a9,a10⟩:=Bz.cells hs5;have al:=hs5.mo.lt;have HS7:=hide hs5;have HO5:=hide (hO.out.below hb5);have HC:=hide (HD4.out _ HS7.out.drew.b);clear hs5 hb5)
         rcases hB (dv == m.dT) with hq|hq
         · have HE:=hide (show Eo m P k j=[] by rw[HDU.out,if_neg (by simpa using hq)])
           go_wp2_with fail
           go_region_held3 (fun W=>(W.cell? ⟨w.heap.size,0,none⟩=some (.slice h.s m.sT.length h.sc)∧W.cell? ⟨w.heap.size,1,none⟩=some (.slice h.f m.fT.length h.fc)∧W.cell? ⟨w.heap.size,2,none⟩=some (.slice h.r m.rT.length h.rc)∧W.cell? ⟨w.heap.size,3,none⟩=some (.slice h.m m.mT.length h.mc)∧W.cell? ⟨w.heap.size,4,none⟩=some (.slice h.l m.lT.length h.lc)∧W.cell? ⟨w.heap.size,5,none⟩=some (.slice h.i m.iT.length h.ic)∧W.cell? ⟨w.heap.size,6,none⟩=some (.int .i64 m.dT)∧W.cell? ⟨w.heap.size,7,none⟩=some (.int .i64 m.oT)∧W.cell? ⟨w.heap.size,8,none⟩=some (.int .i64 m.vT)∧W.cell? ⟨w.heap.size,9,none⟩=some (.int .i64 m.aT)∧W.cell? ⟨w.heap.size,10,none⟩=some (.slice h.u m.uT.length h.uc))∧Bz w h m P w3.heap.size A8 c8 W)
            ((with_reducible (first|(go_keep;done)|exact⟨Bz.cells HS7.out.drew,HS7.out.drew⟩|exact⟨Bz.cells c7,c7⟩|(have hH:=(by assumption:_∧Bz _ _ _ _ _ _ _ _);exact⟨Bz.cells (Bz.drew hH.2),Bz.drew hH.2⟩))))
            (((with_reducible refine HC.out.mono ?_);rintro e w8 ⟨rfl,hb8⟩;have c7:=Bz.grow HS7.out.drew hb8))
           have HO8:=hide (HO5.out.below ((Below.refl _ _).drew.trans hb8))
           go_wp2_with fail
           go_roundw
           case rel=>exact⟨j+1,HLJ.out,by go_num,hide (by rw[HKS.out,HE.out,List.append_nil];exact HO8.out),c7⟩
           case measure=>have:=HLJ.out;simp[intOf];omega
         · rcases hB (u.2 == 2) with hp|hp
           · have HE:=hide (show Eo m P k j=[((k:Int)+1,0)] by rw[HDU.out,if_pos (by simpa using hq)];simp at hp;simp[hp])
             go_wp2_with fail
             go_region_held3 (fun W=>(W.cell? ⟨w.heap.size,0,none⟩=some (.slice h.s m.sT.length h.sc)∧W.cell? ⟨w.heap.size,1,none⟩=some (.slice h.f m.fT.length h.fc)∧W.cell? ⟨w.heap.size,2,none⟩=some (.slice h.r m.rT.length h.rc)∧W.cell? ⟨w.heap.size,3,none⟩=some (.slice h.m m.mT.length h.mc)∧W.cell? ⟨w.heap.size,4,none⟩=some (.slice h.l m.lT.length h.lc)∧W.cell? ⟨w.heap.size,5,none⟩=some (.slice h.i m.iT.length h.ic)∧W.cell? ⟨w.heap.size,6,none⟩=some (.int .i64 m.dT)∧W.cell? ⟨w.heap.size,7,none⟩=some (.int .i64 m.oT)∧W.cell? ⟨w.heap.size,8,none⟩=some (.int .i64 m.vT)∧W.cell? ⟨w.heap.size,9,none⟩=some (.int .i64 m.aT)∧W.cell? ⟨w.heap.size,10,none⟩=some (.slice h.u m.uT.length h.uc))∧Bz w h m P w3.heap.size A8 c8 W)
              ((with_reducible (first|(go_keep;done)|exact⟨Bz.cells HS7.out.drew,HS7.out.drew⟩|exact⟨Bz.cells c7,c7⟩|(have hH:=(by assumption:_∧Bz _ _ _ _ _ _ _ _);exact⟨Bz.cells (Bz.drew hH.2),Bz.drew hH.2⟩))))
              (((with_reducible refine HC.out.mono ?_);rintro e w8 ⟨rfl,hb8⟩;have c7:=Bz.grow HS7.out.drew hb8))
             have hb6:Below w8.heap.size w8 ((w8.alloc (.cells #[.int .i64 ((k:Int)+1),.int .i64 0,.int .i64 0,.int .i64 0,.int .i64 0] 75)).alloc (.cells #[.int .i64 ((k:Int)+1),.int .i64 0,.int .i64 0,.int .i64 0,.int .i64 0] 75)):=((Below.refl _ _).alloc (Nat.le_refl _) _).alloc (by simp) _
             have HS6:=hide (c7.grow hb6)
             have HO6:=hide ((HO5.out.below ((Below.refl _ _).drew.trans hb8)).below hb6)
             have hr6:=JI (w8.alloc (.cells #[.int .i64 ((k:Int)+1),.int .i64 0,.int .i64 0,.int .i64 0,.int .i64 0] 75)) ((k:Int)+1) 0
             rw[World.size_alloc] at hr6
             have HR6:=hide hr6
             have hlL:L.length+1≤1000000:=by have:=HLL.out;omega
             clear hb6 hr6 c7 hb8
             go_wp2_with (at_builtin;refine FM rfl _ _ rfl w.heap.size _ L rfl HO6.out _ _ _ ((k:Int)+1,0) rfl HR6.out hlL HS6.out.b.size ?_;intro v3 w6 ho3 hg3;have ho3:=hide ho3;have hg3:=hide hg3)
             have hs7:=HS6.out.appended HO6.out hg3.out
             go_roundw
             case rel=>exact⟨j+1,HLJ.out,by go_num,hide (by rw[HKS.out,HE.out];exact ho3.out),hs7⟩
             case measure=>have:=HLJ.out;simp[intOf];omega
           · have HE:=hide (show Eo m P k j=[((k:Int)+1,2)] by rw[HDU.out,if_pos (by simpa using hq)];simp at hp;simp[hp])
             go_wp2_with fail
             go_region_held3 (fun W=>(W.cell? ⟨w.heap.size,0,none⟩=some (.slice h.s m.sT.length h.sc)∧W.cell? ⟨w.heap.size,1,none⟩=some (.slice h.f m.fT.length h.fc)∧W.cell? ⟨w.heap.size,2,none⟩=some (.slice h.r m.rT.length h.rc)∧W.cell? ⟨w.heap.size,3,none⟩=some (.slice h.m m.mT.length h.mc)∧W.cell? ⟨w.heap.size,4,none⟩=some (.slice h.l m.lT.length h.lc)∧W.cell? ⟨w.heap.size,5,none⟩=some (.slice h.i m.iT.length h.ic)∧W.cell? ⟨w.heap.size,6,none⟩=some (.int .i64 m.dT)∧W.cell? ⟨w.heap.size,7,none⟩=some (.int .i64 m.oT)∧W.cell? ⟨w.heap.size,8,none⟩=some (.int .i64 m.vT)∧W.cell? ⟨w.heap.size,9,none⟩=some (.int .i64 m.aT)∧W.cell? ⟨w.heap.size,10,none⟩=some (.slice h.u m.uT.length h.uc))∧Bz w h m P w3.heap.size A8 c8 W)
              ((with_reducible (first|(go_keep;done)|exact⟨Bz.cells HS7.out.drew,HS7.out.drew⟩|exact⟨Bz.cells c7,c7⟩|(have hH:=(by assumption:_∧Bz _ _ _ _ _ _ _ _);exact⟨Bz.cells (Bz.drew hH.2),Bz.drew hH.2⟩))))
              (((with_reducible refine HC.out.mono ?_);rintro e w8 ⟨rfl,hb8⟩;have c7:=Bz.grow HS7.out.drew hb8))
             have hb6:Below w8.heap.size w8 ((w8.alloc (.cells #[.int .i64 ((k:Int)+1),.int .i64 0,.int .i64 2,.int .i64 0,.int .i64 0] 75)).alloc (.cells #[.int .i64 ((k:Int)+1),.int .i64 0,.int .i64 2,.int .i64 0,.int .i64 0] 75)):=((Below.refl _ _).alloc (Nat.le_refl _) _).alloc (by simp) _
             have HS6:=hide (c7.grow hb6)
             have HO6:=hide ((HO5.out.below ((Below.refl _ _).drew.trans hb8)).below hb6)
             have hr6:=JI (w8.alloc (.cells #[.int .i64 ((k:Int)+1),.int .i64 0,.int .i64 2,.int .i64 0,.int .i64 0] 75)) ((k:Int)+1) 2
             rw[World.size_alloc] at hr6
             have HR6:=hide hr6
             have hlL:L.length+1≤1000000:=by have:=HLL.out;omega
             clear hb6 hr6 c7 hb8
             go_wp2_with (at_builtin;refine FM rfl _ _ rfl w.heap.size _ L rfl HO6.out _ _ _ ((k:Int)+1,2) rfl HR6.out hlL HS6.out.b.size ?_;intro v3 w6 ho3 hg3;have ho3:=hide ho3;have hg3:=hide hg3)
             have hs7:=HS6.out.appended HO6.out hg3.out
             go_roundw
             case rel=>exact⟨j+1,HLJ.out,by go_num,hide (by rw[HKS.out,HE.out];exact ho3.out),hs7⟩
             case measure=>have:=HLJ.out;simp[intOf];omega
     · obtain rfl:j=m.mT.length:=by omega
       have hO2:=hO.out
       rw[QY HSO.out k] at hO2
       have HO2:=hide hO2
       have hnl:¬ ((m.mT.length:Int)+1≤(m.mT.length:Int)):=by omega
       clear hO hO2 hS
       go_wp2_with fail
       go_roundw
       case rel=>exact⟨k+1,HLT.out,by go_num,HO2,HS.out⟩
       case measure=>have:=HLT.out;simp[intOf];omega
  · obtain rfl:k=m.iT.length:=by omega
    obtain⟨A9,c9,rfl,hrd⟩:=hO.out.rd
    have HRD:=hide hrd
    have hnl:¬ ((m.iT.length:Int)+1≤(m.iT.length:Int)):=by omega
    clear hO hrd hS
    go_wp2_with fail
    go_ret
    exact⟨A9,c9,rfl,HRD.out,HS.out.b⟩
end Go.Proofs.YtfemlajeomohhaaGreatDoor
