/- A part of the claim: see its last text. -/
import Derived.Test.YtfemlajeomohhaaGreatDoorUK02
import Derived.Deep.RegionLaw
import Derived.Deep.RegionHeld3
import Derived.BigQuiet
import Derived.Deep.QuietTactic

set_option maxRecDepth 100000
set_option maxHeartbeats 16000000
namespace Go.Proofs.YtfemlajeomohhaaGreatDoor
open Go Go.RowKit Go.Proofs
def KT(T:TypeId)(w w':World):Prop:=w.heap.size≤w'.heap.size∧∀ (g:Nat) (cur:Array Value),AB w g T cur→AB w' g T cur
section
variable {T T':TypeId} {w w' w'':World}
theorem KT.refl(T:TypeId)(w:World):KT T w w:=⟨Nat.le_refl _,fun _ _ h=>h⟩
theorem KT.trans(h:KT T w w')(h':KT T w' w''):KT T w w'':=⟨Nat.le_trans h.1 h'.1,fun g cur hb=>h'.2 g cur (h.2 g cur hb)⟩
theorem KT.below(h:Below w.heap.size w w'):KT T w w':=⟨h.size,fun _ _ hb=>hb.below h hb.lt⟩
theorem KT.alloc(w:World)(o:Obj):KT T w (w.alloc o):=⟨by simp,fun _ _ hb=>hb.alloc o⟩
theorem KT.drew(w:World):KT T w w.drew:=⟨Nat.le_refl _,fun _ _ hb=>hb⟩
theorem KT.grown {B k n:Nat} {v:Value} {xs:List Value} (hown:w.ownsRow B T' k v n xs) (hne:T≠T') (hg:w.grownBy w' v.ownBlock):KT T w w':=by
 refine⟨hg.size,fun g cur hb=>hb.grown hg fun e=>?_⟩
 rcases hown.2 with⟨rfl,_⟩|⟨g2,cap,cur2,rfl,_,hh,_⟩
 · cases e
 · obtain rfl:g=g2:=Option.some.inj e
   rw[show w.heap[g]? = some (.cells cur T (0,0)) from hb] at hh
   simp at hh
   exact hne hh.2
theorem KT.set_ {g:Nat} {cs:Array Value} (h:AB w g T' cs) (hne:T≠T') (i:Nat) (v:Value):KT T w (w.setCell ⟨g,i,none⟩ v):=by
 refine⟨by simp,fun g2 cur hb=>hb.far (fun e=>?_) v⟩
 simp only at e
 subst e
 rw[AB] at hb h
 rw[hb] at h
 simp at h
 exact hne h.2
end
def AL(l:List AO):List Value:=l.flatMap fun u=>[.int .i64 u.1,.int .i64 u.2]
theorem Bi (l:List AO):(AL l).length=l.length*2:=by
 induction l with
 | nil=>rfl
 | cons a l ih=>simp[AL] at ih ⊢;omega
theorem DR(a b:List AO):AL (a++b)=AL a++AL b:=by simp[AL]
theorem DT:∀ (l:List AO) (i:Nat) (hi:i<l.length),(AL l)[i*2]? = some (.int .i64 l[i].1)∧(AL l)[i*2+1]? = some (.int .i64 l[i].2)
 | u :: l,0,_=>⟨rfl,rfl⟩
 | u :: l,i+1,hi=>by
   have:=DT l i (by simpa using hi)
   simp only[List.getElem_cons_succ]
   rw[show(i+1)*2=i*2+2 by omega]
   exact this
theorem Cb (l:List AO):∀ u∈AL l,u.oneCell'=true:=by
 intro u hu
 simp only[AL,List.mem_flatMap] at hu
 obtain⟨x,_,hx⟩:=hu
 simp at hx
 rcases hx with rfl|rfl <;> rfl
theorem FH (l:List AO):∀ i,(AL l).drop (i*2)=AL (l.drop i):=by
 induction l with
 | nil=>intro i;simp[AL]
 | cons a l ih =>
   intro i
   match i with
   | 0=>simp
   | i+1 =>
     have:=ih i
     rw[show(i+1)*2=i*2+2 by omega]
     simpa[AL] using this
theorem EL (l:List AO):∀ i,(AL l).take (i*2)=AL (l.take i):=by
 induction l with
 | nil=>intro i;simp[AL]
 | cons a l ih =>
   intro i
   match i with
   | 0=>simp[AL]
   | i+1 =>
     have:=ih i
     rw[show(i+1)*2=i*2+2 by omega]
     simpa[AL] using this
def UT (w:World) (v:Value) (l:List AO):Prop :=
 ∃ (A:Option Addr) (c:Nat),v=.slice A l.length c∧l.length≤c∧c≤9223372036854775807 ∧
  (0<l.length→∃ (g off:Nat) (cur:Array Value),A=some ⟨g,off,none⟩∧AB w g 72 cur∧∀ (j:Nat) (u:Value),(AL l)[j]? = some u→cur[off+j]? = some u)
theorem UT.keep {w w':World} {v:Value} {l:List AO} (h:UT w v l) (hk:KT 72 w w'):UT w' v l:=by
 obtain⟨A,c,e,h1,h2,h3⟩:=h
 exact⟨A,c,e,h1,h2,fun hl=>by obtain⟨g,off,cur,e2,hb,hc⟩:=h3 hl;exact⟨g,off,cur,e2,hk.2 _ _ hb,hc⟩⟩
theorem UT.nil_(w:World):UT w (.slice none 0 0) []:=⟨none,0,rfl,by simp,by simp,fun h=>absurd h (by simp)⟩
theorem UT.reads {w:World} {A:Option Addr} {c:Nat} {l:List AO} (h:UT w (.slice A l.length c) l):Reads w w.heap.size 2 A l.length (AL l):=by
 obtain⟨A',c',e,h1,h2,h3⟩:=h
 injection e with e1 e2 e3
 subst e1 e3
 refine⟨Bi l,fun hn=>?_⟩
 obtain⟨g,off,cur,rfl,hb,hc⟩:=h3 hn
 exact⟨_,rfl,hb.lt,fun j u hu=>by rw[BA,hb.cell];exact hc j u hu⟩
theorem UT.form {w:World} {v:Value} {l:List AO} (h:UT w v l):∃ A c,v=.slice A l.length c∧l.length≤c∧c≤9223372036854775807:=by
 obtain⟨A,c,e,h1,h2,_⟩:=h
 exact⟨A,c,e,h1,h2⟩
theorem UT.at_ {w:World} {A:Option Addr} {c:Nat} {l:List AO} (h:UT w (.slice A l.length c) l) {i:Nat} (hi:i<l.length) :
    ∃ b off,A=some ⟨b,off,none⟩∧b<w.heap.size∧w.cell? ⟨b,off+i*2,none⟩=some (.int .i64 l[i].1)∧w.cell? ⟨b,off+i*2+1,none⟩=some (.int .i64 l[i].2):=by
 obtain⟨A',c',e,h1,h2,h3⟩:=h
 injection e with e1 e2 e3
 subst e1 e3
 obtain⟨g,off,cur,rfl,hb,hc⟩:=h3 (by omega)
 obtain⟨u1,u2⟩:=DT l i hi
 exact⟨g,off,rfl,hb.lt,by rw[hb.cell];exact hc _ _ u1,by rw[hb.cell];exact hc _ _ u2⟩
def Ad(B:Nat)(w:World)(v:Value)(l:List AO):Prop:=w.ownsRow B 72 2 v l.length (AL l)
theorem ME:(Tryz.prog.info? 72).map (fun i=>(i.zero,i.size,i.bytes))=some (some (.agg #[.int .i64 0,.int .i64 0]),2,16):=by kernel_rfl
theorem Sk:(Tryz.prog.info? 57).map (fun i=>(i.zero,i.size,i.bytes))=some (some (.slice none 0 0),1,24):=by kernel_rfl
theorem Ad.ut {B:Nat} {w:World} {v:Value} {l:List AO} (h:Ad B w v l):UT w v l:=by
 rcases h.2 with⟨rfl,h0⟩|⟨g,cap,cur,rfl,_,hh,hc,hm,_,ht⟩
 · have:l=[]:=List.eq_nil_of_length_eq_zero h0
   subst this
   exact UT.nil_ w
 · have hx:maxLen=9223372036854775807:=by decide
   refine⟨_,cap,rfl,hc,by omega,fun _=>⟨g,0,cur,rfl,hh,fun j u hu=>?_⟩⟩
   rw[← ht] at hu
   rw[List.getElem?_take] at hu
   split at hu
   · simpa using hu
   · cases hu
theorem Ad.nil_(B:Nat)(w:World):Ad B w (.slice none 0 0) []:=World.ownsRow_nil _ _ _ _
theorem Ad.empty {B:Nat} (w:World) (hB:B≤w.heap.size) {g:Nat} (hg:g=w.heap.size):Ad B (w.alloc (.cells #[] 72)) (.slice (some ⟨g,0,none⟩) 0 0) []:=by
 subst hg
 have:=World.ownsRow_lit (e:=72) (size:=2) w #[] 0 hB (by decide) (by simp)
 simpa[Ad,AL] using this
theorem Ad.keep {B:Nat} {w w':World} {v:Value} {l:List AO} (h:Ad B w v l) (hk:KT 72 w w'):Ad B w' v l:=by
 refine⟨h.1,?_⟩
 rcases h.2 with h0|⟨g,cap,cur,e,hb,hh,h3⟩
 · exact .inl h0
 · exact .inr ⟨g,cap,cur,e,hb,hk.2 _ _ hh,h3⟩
theorem Ad.lt{B:Nat}{w:World}{v:Value}{l:List AO}(h:Ad B w v l):∀ k,v.ownBlock=some k→B≤k∧k<w.heap.size:=World.ownsRow.lt h
def OP (B:Nat) (w:World) (v:Value) (p:AA):Prop :=
 ∃ xs:List Value,w.ownsRow B 57 1 v p.length xs∧xs.length=p.length∧∀ i (hi:i<p.length),∃ u,xs[i]? = some u∧UT w u p[i]
theorem OP.nil_(B:Nat)(w:World):OP B w (.slice none 0 0) []:=⟨[],World.ownsRow_nil _ _ _ _,rfl,fun i hi=>absurd hi (by simp)⟩
theorem OP.keep {B:Nat} {w w':World} {v:Value} {p:AA} (h:OP B w v p) (h1:KT 72 w w') (h2:KT 57 w w'):OP B w' v p:=by
 obtain⟨xs,ho,hl,hu⟩:=h
 refine⟨xs,⟨ho.1,?_⟩,hl,fun i hi=>by obtain⟨u,e,h⟩:=hu i hi;exact⟨u,e,h.keep h1⟩⟩
 rcases ho.2 with h0|⟨g,cap,cur,e,hb,hh,h3⟩
 · exact .inl h0
 · exact .inr ⟨g,cap,cur,e,hb,h2.2 _ _ hh,h3⟩
theorem OP.below{B:Nat}{w w':World}{v:Value}{p:AA}(h:OP B w v p)(hb:Below w.heap.size w w'):OP B w' v p:=h.keep (KT.below hb) (KT.below hb)
theorem OP.lt {B:Nat} {w:World} {v:Value} {p:AA} (h:OP B w v p):∀ k,v.ownBlock=some k→B≤k∧k<w.heap.size:=by
 obtain⟨xs,ho,_⟩:=h
 exact World.ownsRow.lt ho
def PT (w:World) (v:Value) (p:AA):Prop :=
 ∃ (A:Option Addr) (c:Nat) (xs:List Value),v=.slice A p.length c∧p.length≤c∧c≤9223372036854775807∧xs.length=p.length ∧
  (0<p.length→∃ (g off:Nat) (cur:Array Value),A=some ⟨g,off,none⟩∧AB w g 57 cur∧∀ (j:Nat) (u:Value),xs[j]? = some u→cur[off+j]? = some u) ∧
  ∀ i (hi:i<p.length),∃ u,xs[i]? = some u∧UT w u p[i]
theorem PT.keep {w w':World} {v:Value} {p:AA} (h:PT w v p) (h1:KT 72 w w') (h2:KT 57 w w'):PT w' v p:=by
 obtain⟨A,c,xs,e,hl,hc,hx,hr,hu⟩:=h
 exact⟨A,c,xs,e,hl,hc,hx,fun hp=>by obtain⟨g,off,cur,e2,hb,hj⟩:=hr hp;exact⟨g,off,cur,e2,h2.2 _ _ hb,hj⟩,fun i hi=>by obtain⟨u,e,h⟩:=hu i hi;exact⟨u,e,h.keep h1⟩⟩
theorem PT.below{w w':World}{v:Value}{p:AA}(h:PT w v p)(hb:Below w.heap.size w w'):PT w' v p:=h.keep (KT.below hb) (KT.below hb)
theorem PT.form {w:World} {v:Value} {p:AA} (h:PT w v p):∃ A c,v=.slice A p.length c∧p.length≤c∧c≤9223372036854775807:=by
 obtain⟨A,c,_,e,h1,h2,_⟩:=h
 exact⟨A,c,e,h1,h2⟩
theorem PT.at_ {w:World} {A:Option Addr} {c:Nat} {p:AA} (h:PT w (.slice A p.length c) p) {i:Nat} (hi:i<p.length) :
    ∃ b off A2 c2,A=some ⟨b,off,none⟩∧b<w.heap.size∧w.cell? ⟨b,off+i,none⟩=some (.slice A2 p[i].length c2)∧UT w (.slice A2 p[i].length c2) p[i]:=by
 obtain⟨A',c',xs,e,hl,hc,hx,hr,hu⟩:=h
 injection e with e1 e2 e3
 subst e1 e3
 obtain⟨g,off,cur,rfl,hb,hj⟩:=hr (by omega)
 obtain⟨u,hxu,hut⟩:=hu i hi
 obtain⟨A2,c2,rfl,_⟩:=hut.form
 exact⟨g,off,A2,c2,rfl,hb.lt,by rw[hb.cell];exact hj i _ hxu,hut⟩
theorem OP.pt {B:Nat} {w:World} {v:Value} {p:AA} (h:OP B w v p):PT w v p:=by
 obtain⟨xs,ho,hl,hu⟩:=h
 rcases ho.2 with⟨rfl,h0⟩|⟨g,cap,cur,rfl,_,hh,hc,hm,_,ht⟩
 · have:p=[]:=List.eq_nil_of_length_eq_zero h0
   subst this
   exact⟨none,0,xs,rfl,by simp,by simp,hl,fun h=>absurd h (by simp),hu⟩
 · have hx:maxLen=9223372036854775807:=by decide
   refine⟨_,cap,xs,rfl,hc,by omega,hl,fun _=>⟨g,0,cur,rfl,hh,fun j u hu=>?_⟩,hu⟩
   rw[← ht] at hu
   rw[List.getElem?_take] at hu
   split at hu
   · simpa using hu
   · cases hu
theorem OP.snoc {B:Nat} {w w':World} {v v' u:Value} {p:AA} {l:List AO} (h:OP B w v p) (hu:UT w u l) {B2:Nat} {A:Option Addr} (_hr:Reads w B2 1 A 1 [u])
    (hg:w.grownBy w' v.ownBlock) (ho':∀ xs,w.ownsRow B 57 1 v p.length xs→w'.ownsRow B 57 1 v' (p.length+1) (xs ++ [u])):OP B w' v' (p ++ [l]):=by
 obtain⟨xs,ho,hl,hx⟩:=h
 have hk:KT 72 w w':=KT.grown ho (by decide) hg
 refine⟨xs ++ [u],by rw[List.length_append];exact ho' xs ho,by simp[hl],fun i hi=>?_⟩
 by_cases hip:i<p.length
 · obtain⟨y,e,hy⟩:=hx i hip
   refine⟨y,by rw[List.getElem?_append_left (by omega)];exact e,?_⟩
   rw[List.getElem_append_left hip];exact hy.keep hk
 · have:i=p.length:=by simp at hi;omega
   subst this
   exact⟨u,by rw[List.getElem?_append_right (by omega)];simp[hl],by simpa using hu.keep hk⟩
theorem IX {o:Oper} {a:Act} {K:Act→World→Prop} {Q:Exit→Act→World→Prop} {w:World} (s x:Operand)
    (ho:o.op=.call { callee:=.builtin .append,args:=#[s,x],argTypes:=#[54,54] })
    (base:Nat) (v:Value) (p:AA) (hs:a.eval s=v) (hown:OP base w v p)
    (B:Nat) (A:Option Addr) (c:Nat) (u:Value) (l:List AO) (hx:a.eval x=.slice A 1 c) (hr:Reads w B 1 A 1 [u]) (hu:UT w u l)
    (hlen:p.length≤1000000) (hbase:base≤w.heap.size)
    (h:∀ v' w',OP base w' v' (p ++ [l])→w.grownBy w' v.ownBlock→(v'.ownBlock=v.ownBlock∨v'.ownBlock=some w.heap.size)→K (a.put o.dst v') w'):o.wp Tryz.prog a w K Q:=by
 obtain⟨i0,hi,hz0,hz1,hz2⟩:=info_parts Sk
 have hown':=hown
 obtain⟨xs,ho1,hl,hxs⟩:=hown
 refine BZ w s x 54 ho base 57 i0 _ 1 24 Tryz.underlying54 hi hz0 hz1 hz2 rfl (by omega) v p.length xs hs ho1 B A 1 c [u] hx hr ?_ (by unfold maxLen;omega) (by omega) hbase
  fun v' w' h2 h3 h4=>h v' w' ?_ h3 h4
 · intro y hy
   obtain rfl:=List.mem_singleton.1 hy
   obtain⟨A2,c2,rfl,_⟩:=hu.form
   rfl
 · refine OP.snoc ⟨xs,ho1,hl,hxs⟩ hu hr h3 fun xs' ho'=>?_
   obtain rfl:xs'=xs:=by
    rcases ho1.2 with⟨rfl,h0⟩|⟨g,cap,cur,rfl,_,hh,_,_,_,ht⟩
    · have e1:=ho1.1
      have e2:=ho'.1
      have z1:xs=[]:=List.eq_nil_of_length_eq_zero (by omega)
      have z2:xs'=[]:=List.eq_nil_of_length_eq_zero (by omega)
      rw[z1,z2]
    · rcases ho'.2 with⟨he,_⟩|⟨g2,cap2,cur2,he,_,hh2,_,_,_,ht2⟩
      · cases he
      · have he1:g=g2:=by have h1:=(Value.slice.inj he).1;have h2:=Option.some.inj h1;exact congrArg Addr.block h2
        subst he1
        have hcur:cur=cur2:=(Obj.cells.inj (Option.some.inj (hh.symm.trans hh2))).1
        have ht3:=ht2
        rw[← hcur] at ht3
        exact ht3.symm.trans ht
   exact h2
theorem J3 {ops:Array Oper} {rest:List Oper} {o:Oper} {a:Act} {Q:Exit→Act→World→Prop} {w:World} (hgd:o.guard=none) (s x:Operand)
    (ho:o.op=.call { callee:=.builtin .append,args:=#[s,x],argTypes:=#[54,54] })
    (base:Nat) (v:Value) (p:AA) (hs:a.eval s=v) (hown:OP base w v p)
    (B:Nat) (A:Option Addr) (c:Nat) (u:Value) (l:List AO) (hx:a.eval x=.slice A 1 c) (hr:Reads w B 1 A 1 [u]) (hu:UT w u l)
    (hlen:p.length≤1000000) (hbase:base≤w.heap.size)
    (h:∀ v' w',OP base w' v' (p ++ [l])→w.grownBy w' v.ownBlock→(v'.ownBlock=v.ownBlock∨v'.ownBlock=some w.heap.size)→wpList Tryz.prog ops Q rest (a.put o.dst v') w'):wpList Tryz.prog ops Q (o :: rest) a w :=
 wpList_plain hgd fun _ hK=>IX s x ho base v p hs hown B A c u l hx hr hu hlen hbase fun v' w' h2 h3 h4=>hK _ _ (h v' w' h2 h3 h4)
theorem Gn {ops:Array Oper} {o:Oper} {a:Act} {K:Act→World→Prop} {Q:Exit→Act→World→Prop} {E:Prop} {w:World} (hgd:o.guard=none) (s x:Operand)
    (ho:o.op=.call { callee:=.builtin .append,args:=#[s,x],argTypes:=#[54,54] })
    (base:Nat) (v:Value) (p:AA) (hs:a.eval s=v) (hown:OP base w v p)
    (B:Nat) (A:Option Addr) (c:Nat) (u:Value) (l:List AO) (hx:a.eval x=.slice A 1 c) (hr:Reads w B 1 A 1 [u]) (hu:UT w u l)
    (hlen:p.length≤1000000) (hbase:base≤w.heap.size)
    (h:∀ v' w',OP base w' v' (p ++ [l])→w.grownBy w' v.ownBlock→(v'.ownBlock=v.ownBlock∨v'.ownBlock=some w.heap.size)→K (a.put o.dst v') w') :
    if Region.wanted o (yielded ops a.tmps)=true then Oper.wp Tryz.prog o a w K Q else E:=by
 have hw:Region.wanted o (yielded ops a.tmps)=true:=by simp[Region.wanted,hgd]
 rw[if_pos hw]
 exact IX s x ho base v p hs hown B A c u l hx hr hu hlen hbase h
theorem Gu {o:Oper} {a:Act} {K:Act→World→Prop} {Q:Exit→Act→World→Prop} {w:World} (s x:Operand)
    (ho:o.op=.call { callee:=.builtin .append,args:=#[s,x],argTypes:=#[57,57] })
    (base:Nat) (v:Value) (l:List AO) (hs:a.eval s=v) (hown:Ad base w v l)
    (B:Nat) (A:Option Addr) (n c:Nat) (l2:List AO) (hx:a.eval x=.slice A n c) (hn:n=l2.length) (hr:Reads w B 2 A n (AL l2))
    (hlen:l.length+l2.length≤1000000) (hbase:base≤w.heap.size)
    (h:∀ v' w',Ad base w' v' (l++l2)→w.grownBy w' v.ownBlock→(v'.ownBlock=v.ownBlock∨v'.ownBlock=some w.heap.size)→K (a.put o.dst v') w'):o.wp Tryz.prog a w K Q:=by
 subst hn
 obtain⟨i0,hi,hz0,hz1,hz2⟩:=info_parts ME
 refine BZ w s x 57 ho base 72 i0 _ 2 16 Tryz.underlying57 hi hz0 hz1 hz2 rfl (by omega) v l.length (AL l) hs hown B A l2.length c (AL l2) hx hr (Cb l2) (by unfold maxLen;omega) (by omega) hbase
  fun v' w' h2 h3 h4=>h v' w' ?_ h3 h4
 unfold Ad;rw[DR,List.length_append];exact h2
theorem Dn {ops:Array Oper} {rest:List Oper} {o:Oper} {a:Act} {Q:Exit→Act→World→Prop} {w:World} (hgd:o.guard=none) (s x:Operand)
    (ho:o.op=.call { callee:=.builtin .append,args:=#[s,x],argTypes:=#[57,57] })
    (base:Nat) (v:Value) (l:List AO) (hs:a.eval s=v) (hown:Ad base w v l)
    (B:Nat) (A:Option Addr) (n c:Nat) (l2:List AO) (hx:a.eval x=.slice A n c) (hn:n=l2.length) (hr:Reads w B 2 A n (AL l2))
    (hlen:l.length+l2.length≤1000000) (hbase:base≤w.heap.size)
    (h:∀ v' w',Ad base w' v' (l++l2)→w.grownBy w' v.ownBlock→(v'.ownBlock=v.ownBlock∨v'.ownBlock=some w.heap.size)→wpList Tryz.prog ops Q rest (a.put o.dst v') w'):wpList Tryz.prog ops Q (o :: rest) a w :=
 wpList_plain hgd fun _ hK=>Gu s x ho base v l hs hown B A n c l2 hx hn hr hlen hbase fun v' w' h2 h3 h4=>hK _ _ (h v' w' h2 h3 h4)
theorem AU {ops:Array Oper} {o:Oper} {a:Act} {K:Act→World→Prop} {Q:Exit→Act→World→Prop} {E:Prop} {w:World} (hgd:o.guard=none) (s x:Operand)
    (ho:o.op=.call { callee:=.builtin .append,args:=#[s,x],argTypes:=#[57,57] })
    (base:Nat) (v:Value) (l:List AO) (hs:a.eval s=v) (hown:Ad base w v l)
    (B:Nat) (A:Option Addr) (n c:Nat) (l2:List AO) (hx:a.eval x=.slice A n c) (hn:n=l2.length) (hr:Reads w B 2 A n (AL l2))
    (hlen:l.length+l2.length≤1000000) (hbase:base≤w.heap.size)
    (h:∀ v' w',Ad base w' v' (l++l2)→w.grownBy w' v.ownBlock→(v'.ownBlock=v.ownBlock∨v'.ownBlock=some w.heap.size)→K (a.put o.dst v') w') :
    if Region.wanted o (yielded ops a.tmps)=true then Oper.wp Tryz.prog o a w K Q else E:=by
 have hw:Region.wanted o (yielded ops a.tmps)=true:=by simp[Region.wanted,hgd]
 rw[if_pos hw]
 exact Gu s x ho base v l hs hown B A n c l2 hx hn hr hlen hbase h
theorem UT.new (w:World) (l:List AO) {g c:Nat} (hg:g=w.heap.size) (hc:c=l.length) (hl:l.length≤1000000):UT (w.alloc (.cells (AL l).toArray 72)) (.slice (some ⟨g,0,none⟩) l.length c) l:=by
 subst hg hc
 exact⟨_,l.length,rfl,Nat.le_refl _,by omega,fun _=>⟨w.heap.size,0,_,rfl,AB.new w _ _,fun j u hu=>by simpa using hu⟩⟩
end Go.Proofs.YtfemlajeomohhaaGreatDoor
namespace Go.Proofs.YtfemlajeomohhaaGreatDoor
open Go Go.RowKit
theorem Ku (A:Option Addr) (c:Nat) (l:List ByteArray) (s:ByteArray) (w:World) (hl:l.length≤9223372036854775807) (h:Strs w w.heap.size A l) :
    Calls Tryz.prog 49 #[.slice A l.length c,.string s] w fun e w'=>e=.returned (.bool (Be l s))∧w=w':=by
 go_enter Tryz.func49,Tryz.ntmps49
 go_wp2
 go_loop [5] (fun i=>∃ k:Nat,k≤l.length∧i=.int .i64 k∧∀ j (hj:j<l.length),j<k→l[j]≠s) (fun i=>l.length - (intOf i).toNat)
 case atStart=>exact⟨0,Nat.zero_le _,rfl,fun j hj h0=>absurd h0 (by omega)⟩
 case round =>
  obtain⟨k,hk,rfl,hs⟩:=hrel
  have HS:=hide hs;clear hs
  by_cases hlt:k<l.length
  · obtain ⟨ad,rfl,hb,hc⟩:=h.at_ hlt
    by_cases he:l[k]=s
    · have hq:=Gq he
      have hm:Be l s=true:=by rw[Jo,← he];exact List.getElem_mem _
      have HE:=hide he;clear he
      have HM:=hide hm;clear hm
      go_wp2
      go_ret
      exact⟨AJ (by rw[HM.out];rfl),rfl⟩
    · have hq:=Jt he
      have HE:=hide he;clear he
      go_wp2
      go_round
      case rel=>exact⟨k+1,by omega,by go_num,fun j hj h1=>by
       rcases Nat.lt_or_ge j k with h2|h2
       · exact HS j hj h2
       · obtain rfl:j=k:=by omega
         exact HE⟩
      case measure=>simp[intOf];omega
  · have hm:Be l s=false:=by
      rw[Bool.eq_false_iff,Ne,Jo]
      intro hm;obtain⟨j,hj,e⟩:=List.getElem_of_mem hm;exact HS j hj (by omega) e
    have HM:=hide hm;clear hm
    go_wp2
    go_ret
    exact⟨AJ (by rw[HM.out];rfl),rfl⟩
theorem Ew (c:Int) (w:World):Calls Tryz.prog 89 #[.int .u8 c] w fun e w'=>e=.returned (.bool (Bt c))∧w=w':=by
 by_cases h1:97≤c <;> by_cases h2:c≤122
 all_goals
  have hL:Bt c=(decide (97≤c) && decide (c≤122)):=rfl
  have HL:=hide hL;clear hL
  go_enter Tryz.func89,Tryz.ntmps89
  go_wp2
  go_ret
  exact⟨AJ (by rw[HL.out];simp[*]),rfl⟩
theorem LH (c:Int) (w:World):Calls Tryz.prog 91 #[.int .u8 c] w fun e w'=>e=.returned (.bool (EQ c))∧w=w':=by
 by_cases h1:48≤c <;> by_cases h2:c≤57
 all_goals
  have hL:EQ c=(decide (48≤c) && decide (c≤57)):=rfl
  have HL:=hide hL;clear hL
  go_enter Tryz.func91,Tryz.ntmps91
  go_wp2
  go_ret
  exact⟨AJ (by rw[HL.out];simp[*]),rfl⟩
theorem Iz (w:World):Calls Tryz.prog 90 #[] w fun e w'=>∃ A,e=.returned (.slice A BX.length BX.length)∧Strs w' w'.heap.size A BX∧Below w.heap.size w w':=by
 go_enter Tryz.func90,Tryz.ntmps90
 go_wp2
 go_ret
 exact⟨some ⟨w.heap.size,0,none⟩,rfl,(Strs.newRow w 9 BX).more (by simp),(Below.refl _ _).alloc (Nat.le_refl _) _⟩
theorem KI (s:ByteArray) (w:World) (hs:s.size≤9223372036854775807) :
    Calls Tryz.prog 48 #[.string s] w fun e w'=>e=.returned (.bool (BK s))∧Below w.heap.size w w':=by
 by_cases h1:s.size<1
 · have HN:=hide (Iw h1)
   go_enter Tryz.func48,Tryz.ntmps48
   go_wp2
   go_ret
   exact⟨AJ (by rw[HN.out];rfl),Below.refl _ _⟩
 by_cases h2:31<s.size
 · have HN:=hide (Jc h2)
   go_enter Tryz.func48,Tryz.ntmps48
   go_wp2
   go_ret
   exact⟨AJ (by rw[HN.out];rfl),Below.refl _ _⟩
 cases h3:Bt s[0].toNat
 · have HN:=hide (Iu (by omega) h3)
   go_enter Tryz.func48,Tryz.ntmps48
   go_wp2_with (go_at_call 89;refine(Ew _ _).mono ?_;rintro e w' ⟨rfl,rfl⟩)
   go_ret
   exact⟨AJ (by rw[HN.out];rfl),Below.refl _ _⟩
 cases hb:Be BX s
 rotate_left
 · have HN:=hide (PO hb)
   have HB:=hide hb
   go_enter Tryz.func48,Tryz.ntmps48
   go_wp2_with (first
    | (go_at_call 89;refine(Ew _ _).mono ?_;rintro e w' ⟨rfl,rfl⟩)
    | (go_at_call 90;refine(Iz _).mono ?_;rintro e w1 ⟨A,rfl,hA,hw1⟩)
    | (go_at_call 49;refine(Ku A _ BX s _ (by decide) hA).mono ?_;rintro e w' ⟨rfl,rfl⟩))
   go_ret
   exact⟨AJ (by rw[HN.out];rfl),hw1⟩
 · go_enter Tryz.func48,Tryz.ntmps48
   go_wp2_with (first
    | (go_at_call 89;refine(Ew _ _).mono ?_;rintro e w' ⟨rfl,rfl⟩)
    | (go_at_call 90;refine(Iz _).mono ?_;rintro e w1 ⟨A,rfl,hA,hw1⟩)
    | (go_at_call 49;refine(Ku A _ BX s _ (by decide) hA).mono ?_;rintro e w' ⟨rfl,rfl⟩))
   have HW:=hide hw1;clear hw1
   have H3:=hide h3;clear h3
   have HB:=hide hb;clear hb
   clear hA
   go_loop [3] (fun i=>∃ k:Nat,k≤s.size∧i=.int .i64 k∧∀ j (hj:j<s.size),j<k→Ci s[j].toNat=true) (fun i=>s.size - (intOf i).toNat)
   case atStart=>exact⟨0,Nat.zero_le _,rfl,fun j hj h0=>absurd h0 (by omega)⟩
   case round =>
    obtain⟨k,hk,rfl,hn⟩:=hrel
    have HN:=hide hn;clear hn
    by_cases hlt:k<s.size
    · cases hx:Ci s[k].toNat
      · obtain⟨e1,e2,e3⟩:=OH hx
        have HX:=hide hx;clear hx
        go_wp2_with (first
         | (go_at_call 89;refine(Ew _ _).mono ?_;rintro e w' ⟨rfl,rfl⟩)
         | (go_at_call 91;refine(LH _ _).mono ?_;rintro e w' ⟨rfl,rfl⟩))
        go_ret
        exact⟨AJ (by rw[Qu hlt HX];rfl),HW.out⟩
      · rcases PZ hx with e1|⟨e1,e2⟩|⟨e1,e2,e3⟩
        all_goals
         have HX:=hide hx;clear hx
         go_wp2_with (first
          | (go_at_call 89;refine(Ew _ _).mono ?_;rintro e w' ⟨rfl,rfl⟩)
          | (go_at_call 91;refine(LH _ _).mono ?_;rintro e w' ⟨rfl,rfl⟩))
         go_round
         case rel=>exact⟨k+1,by omega,by go_num,fun j hj h1=>by
          rcases Nat.lt_or_ge j k with h2|h2
          · exact HN j hj h2
          · obtain rfl:j=k:=by omega
            exact HX⟩
         case measure=>simp[intOf];omega
    · go_wp2
      go_ret
      exact⟨AJ (by rw[Nz (by omega) (by omega) H3.out HB.out (fun j hj=>HN.out j hj (by omega))];rfl),HW.out⟩
end Go.Proofs.YtfemlajeomohhaaGreatDoor
namespace Go.Proofs.YtfemlajeomohhaaGreatDoor
open Go Go.RowKit Go.Proofs
theorem Aa (n l:Int) (w:World):Calls Tryz.prog 21 #[.int .i64 n,.int .i64 l] w fun e w'=>e=.returned (.bool (AP n l))∧w=w':=by
 by_cases h1:1≤n <;> by_cases h2:n≤l
 all_goals
  have hL:AP n l=(decide (1≤n) && decide (n≤l)):=rfl
  have HL:=hide hL;clear hL
  go_enter Tryz.func21,Tryz.ntmps21
  go_wp2
  go_ret
  exact⟨AJ (by rw[HL.out];simp[*]),rfl⟩
theorem Ex (n:Int) (w:World):Calls Tryz.prog 44 #[.int .i64 n] w fun e w'=>e=.returned (.bool (Au n 0 1048576))∧w=w':=by
 by_cases h1:0≤n <;> by_cases h2:n≤1048576
 all_goals
  have hL:Au n 0 1048576=(decide (0≤n) && decide (n≤1048576)):=rfl
  have HL:=hide hL;clear hL
  go_enter Tryz.func44,Tryz.ntmps44
  go_wp2
  go_ret
  exact⟨AJ (by rw[HL.out];simp[*]),rfl⟩
theorem Bw (n a b:Int) (w:World):Calls Tryz.prog 22 #[.int .i64 n,.int .i64 a,.int .i64 b] w fun e w'=>e=.returned (.bool (Au n a b))∧w=w':=by
 by_cases h1:a≤n <;> by_cases h2:n≤b
 all_goals
  have hL:Au n a b=(decide (a≤n) && decide (n≤b)):=rfl
  have HL:=hide hL;clear hL
  go_enter Tryz.func22,Tryz.ntmps22
  go_wp2
  go_ret
  exact⟨AJ (by rw[HL.out];simp[*]),rfl⟩
theorem PN (A:Option Addr) (c:Nat) (l:List Int) (s:Int) (w:World) (hl:l.length≤9223372036854775807) (h:Ints w w.heap.size A l) :
    Calls Tryz.prog 221 #[.slice A l.length c,.int .i64 s] w fun e w'=>e=.returned (.bool (decide (s∈l)))∧w=w':=by
 go_enter Tryz.func221,Tryz.ntmps221
 go_wp2
 go_loop [5] (fun i=>∃ k:Nat,k≤l.length∧i=.int .i64 k∧∀ j (hj:j<l.length),j<k→l[j]≠s) (fun i=>l.length - (intOf i).toNat)
 case atStart=>exact⟨0,Nat.zero_le _,rfl,fun j hj h0=>absurd h0 (by omega)⟩
 case round =>
  obtain⟨k,hk,rfl,hs⟩:=hrel
  have HS:=hide hs;clear hs
  by_cases hlt:k<l.length
  · obtain ⟨b,off,rfl,hb,hc⟩:=Dy h hlt
    by_cases he:l[k]=s
    · have hq:(l[k] == s)=true:=by simpa using he
      have hm:decide (s∈l)=true:=by rw[decide_eq_true_iff,← he];exact List.getElem_mem _
      have HM:=hide hm;clear hm he
      go_wp2
      go_ret
      exact⟨AJ (by rw[HM.out];rfl),rfl⟩
    · have hq:(l[k] == s)=false:=by simpa using he
      have HE:=hide he;clear he
      go_wp2
      go_round
      case rel=>exact⟨k+1,by omega,by go_num,fun j hj h1=>by
       rcases Nat.lt_or_ge j k with h2|h2
       · exact HS j hj h2
       · obtain rfl:j=k:=by omega
         exact HE⟩
      case measure=>simp[intOf];omega
  · have hm:decide (s∈l)=false:=by
      rw[decide_eq_false_iff_not]
      intro hm;obtain⟨j,hj,e⟩:=List.getElem_of_mem hm;exact HS j hj (by omega) e
    have HM:=hide hm;clear hm
    go_wp2
    go_ret
    exact⟨AJ (by rw[HM.out];rfl),rfl⟩
theorem Bv {P:Program} {f:FuncId} {args:Array Value} {w:World} {n:Nat} {v:Value}
    (h:Calls P f args (w.drewN n) fun e w'=>e=.returned v∧w.drewN n=w'):Calls P f args (w.drewN n) fun e w''=>e=.returned v∧∃ m,w''=w.drewN m :=
 h.mono fun _ _ ⟨he,hm⟩=>⟨he,n,hm.symm⟩
end Go.Proofs.YtfemlajeomohhaaGreatDoor
