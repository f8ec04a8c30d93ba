/-
  What Disk.Write does.
-/
import Derived.Test.YtgfbepakonjbnaaGreatZ01
import Derived.Deep.RegionHeld3
import Derived.Deep.DeepFit
import Derived.Test.YtgfbepakonjbnaaGreatIterLay
import Derived.BigQuiet
set_option maxRecDepth 100000
set_option maxHeartbeats 16000000
section
namespace Go.Proofs.YtgfbepakonjbnaaGreat
open Go.RowKit
def Gr(F:Nat->Prop)(n:Nat):Nat->Prop:=λ k=>F k∨n<=k
theorem Gr.old{F:Nat->Prop}{n:Nat}:∀k,F k->Gr F n k:=λ _ h=> .inl h
theorem Gr.new{F:Nat->Prop}{n m:Nat}(h:n<=m):∀k,m<=k->Gr F n k:=λ _ hk=> .inr (Nat.le_trans h hk)
theorem Gr.gr{F:Nat->Prop}{n m:Nat}(h:n<=m):∀k,Gr F m k->Gr F n k:=λ _ hk=>hk.imp id (Nat.le_trans h)
theorem Gr.gr2{F:Nat->Prop}{n m:Nat}(h:n<=m):∀k,Gr (Gr F n) m k->Gr F n k:=λ _ hk=>hk.elim id (λ q=> .inr (Nat.le_trans h q))
theorem Aa1.shape{w:World}{u8:TypeId}{F:Nat->Prop}{v:Value}{l:List UInt8}(h:Aa1 w u8 F v l):∃a n c,v=.slice a n c:=by
 rcases h with⟨k,r,_,e,_⟩ | ⟨_,e⟩
 ·exact⟨_,_,_,e⟩
 ·exact⟨_,_,_,e⟩
theorem Rd.of_block{w w':World}{v:Value}{l:List UInt8}(h:Rd w v l)(hb:∀b o c,w.cell? ⟨b,o,none⟩=some (bv c)->w'.heap[b]?=w.heap[b]?):Rd w' v l:=by
 obtain⟨ao,cap,e,hc,hh⟩:=h;refine⟨ao,cap,e,hc,λ hp=>?_⟩;obtain⟨b,off,rfl,hcell⟩:=hh hp;refine⟨b,off,rfl,λ i hi=>?_⟩;rw[World.cell?_of_block (w:=w) (hb _ _ _ (hcell i hi))];exact hcell i hi
theorem Rd.below{w w':World}{v:Value}{l:List UInt8}(h:Rd w v l)(hb:Upd [] w w'):Rd w' v l:=
 h.of_block λ _ _ _ hc=>hb.block _ (block_lt_of_cell hc) (by simp)
theorem C9.cell{w:World}{F:Nat->Prop}{g:DG}{D:Dk}(h:C9 w F g D){b o:Nat}{c:UInt8}(hc:w.cell? ⟨b,o,none⟩=some (bv c)):b∉[g.db,g.lb,g.mb]:=by
 obtain⟨⟨fv,a1,a2⟩,⟨lv,b1,_,b3⟩,⟨f,hf,_⟩,_⟩:=h;simp only[List.mem_cons,List.not_mem_nil,or_false,not_or];refine⟨?_,?_,?_⟩
 ·rintro rfl;rw[A4 a1] at hc;have hfv:fv≠bv c:=by
   rcases a2 with⟨k,r,_,e,_⟩ | ⟨_,e⟩<;>rw[e]<;>simp[bv]
  match o,hc with
  | 0,hc | 1,hc | 2,hc | 3,hc | 4,hc | 5,hc | 7,hc | 8,hc=>simp[bv] at hc
  | 6,hc=>simp at hc;exact hfv hc
  | o+9,hc=>simp at hc
 ·rintro rfl;rw[A4 b1] at hc;have hl:=b3 o _ (by simpa using hc);rcases hl with⟨e,_⟩ | ⟨k,r,_,e,_⟩<;>simp[bv] at e
 ·rintro rfl;obtain⟨es,clock,hm,_⟩:=hf;simp[World.cell?,hm] at hc
theorem Rd.disk{w w':World}{F:Nat->Prop}{g:DG}{D:Dk}(h:C9 w F g D){v:Value}{l:List UInt8}(hr:Rd w v l){S:List Nat}(hu:Upd S w w')(hS:∀k,k∈S->k∈[g.db,g.lb,g.mb]):Rd w' v l:=
 hr.of_block λ _ _ _ hc=>hu.block _ (block_lt_of_cell hc) (λ q=>h.cell hc (hS _ q))
theorem Rd.take{w:World}{ao:Option Addr}{n cap:Nat}{l:List UInt8}(h:Rd w (.slice ao n cap) l)(k:Nat)(hk:k<=l.length):Rd w (.slice ao k cap) (l.take k):=by
 obtain⟨ao',cap',e,hc,hh⟩:=h;simp only[Value.slice.injEq] at e;obtain⟨rfl,rfl,rfl⟩:=e;have hlen:(l.take k).length=k:=by rw[List.length_take];omega
 refine⟨ao,cap,by rw[hlen],by omega,λ hp=>?_⟩;obtain⟨b,off,rfl,hcell⟩:=hh (by omega);refine⟨b,off,rfl,λ i hi=>?_⟩;rw[List.getElem_take];exact hcell i (by omega)
theorem Bx4{w:World}{F:Nat->Prop}{g:DG}{D:Dk}(h:C9 w F g D)(i:Int)(v:Value)(hm:D.may i≠0) :
  Calls Tryz.prog 214 #[.pointer (some ⟨g.db,0,none⟩),.int .i64 i,v] w λ e w'=>e=.returned (.int .i64 (D.may i))/\w=w':=by
 have H:=η h;have hm':(D.may i != 0)=true:=by simpa using hm
 clear h hm;go_enter Tryz.func214,Tryz.ntmps214
 go_wp2_with (go_at_call 181;refine(V3 H.out _).mono ?_;rintro e w' ⟨rfl,rfl⟩)
 go_ret;exact⟨rfl,rfl⟩
theorem Bq8{w:World}{F:Nat->Prop}{g:DG}{D:Dk}(h:C9 w F g D)(i:Int)(ao:Option Addr)(n cap:Nat)(hm:D.may i=0)(hn:n≠512) :
  Calls Tryz.prog 214 #[.pointer (some ⟨g.db,0,none⟩),.int .i64 i,.slice ao n cap] w λ e w'=>e=.returned (.int .i64 9)/\w=w':=by
 have H:=η h;have hm':(D.may i != 0)=false:=by simp[hm]
 have hn':((n:Int) != 512)=true:=by rw[bne_iff_ne];omega
 clear h hm hn;go_enter Tryz.func214,Tryz.ntmps214
 go_wp2_with (go_at_call 181;refine(V3 H.out _).mono ?_;rintro e w' ⟨rfl,rfl⟩)
 go_ret;exact⟨rfl,rfl⟩
theorem Bq9{w:World}{F:Nat->Prop}{g:DG}{D:Dk}(h:C9 w F g D)(i:Nat)(v:Value)(b:List UInt8)(hr:Rd w v b)(hoff:D.off=false)(hi:i<D.n)(hb:b.length=512)(harm:D.armed=0) :
  Calls Tryz.prog 214 #[.pointer (some ⟨g.db,0,none⟩),.int .i64 (i:Int),v] w λ e w'=>e=.returned (.int .i64 8)/\C9 w' (Gr F w.heap.size) g { D with off:=true,way:=some i,front:=b.take D.part }/\Upd [g.db] w w':=by
 have H:=η h;have hm:D.may i=0:=Dk.may_of hoff (by omega) (by omega);have hm':(D.may i != 0)=false:=by simp[hm]
 have ha:(D.armed != 0)=false:=by simp[harm]
 have HA:=η harm;have HR:=η hr;have HB:=η hb;have HOK:=η h.ok;have hp:=h.ok.part;obtain⟨ao,cap,rfl,hcap,_⟩:=id hr;have hn':((b.length:Int) != 512)=false:=by simp[hb]
 have hbl:512<=b.length:=by omega
 have hbl2:b.length<=512:=by omega
 clear h hm harm hr hb;go_enter Tryz.func214,Tryz.ntmps214
 go_wp2_with (first | (go_at_call 181;refine(V3 H.out _).mono ?_;rintro e w' ⟨rfl,rfl⟩) | fail)
 refine(Ak2 H.out).mono ?_;rintro e w1 ⟨rfl,hD1,hu1⟩;have hgone:D.gone = { D with off:=true }:=by unfold Dk.gone;rw[if_pos HA.out]
 rw[hgone] at hD1;have HR1:=η ((HR.out.disk H.out hu1 (by simp)).take D.part (by omega));have HD1:=η hD1;obtain⟨fv,a1,_⟩:=hD1.st;have hc:=A4 a1;have HA1:=η a1;have HU1:=η hu1;clear hgone hD1 hu1 a1;go_wp2_with fail
 refine(V8 _ _ _ HR1.out (by rw[List.length_take];omega)).mono ?_;rintro e w2 ⟨v',rfl,hu2,ho2⟩;obtain⟨aq,nq,cq,rfl⟩:=ho2.shape;have a2:w2.heap[g.db]?=_:=(hu2.block _ (A2 HA1.out) (by simp)).trans HA1.out;have hc2:=A4 a2;have hf2:=E4 a2;have HU2:=η hu2;have HO2:=η ho2;have HA2:=η a2;clear hu2 ho2 a2 hc;go_wp2
 go_ret;have hsz:=HU1.out.size;refine⟨rfl,?_,?_⟩
 ·have hD2:C9 w2 (Gr F w.heap.size) g { D with off:=true }:=
   (HD1.out.world (HU2.out.block _ HD1.out.lt.1 (by simp)) (HU2.out.block _ HD1.out.lt.2.1 (by simp)) (HU2.out.block _ HD1.out.lt.2.2 (by simp)) (λ k c _ hk=>HU2.out.block _ (A2 hk) (by simp))).mono Gr.old
  refine hD2.re ⟨.slice aq nq cq,?_,?_⟩ (λ k _ hk=>by rw[E7 _ _ hk,E7 _ _ hk]) rfl rfl rfl ?_
  ·rw[B3 (B3 HA2.out 5 _) 6 _];simp[Cc4]
  ·refine(HO2.out.mono (Gr.new hsz)).world (λ k c _ hk=>?_);have hne:k≠g.db:=by rintro rfl;rw[HA2.out] at hk;simp at hk
   rw[E7 _ _ hne,E7 _ _ hne]
  ·have ok:=HOK.out;exact⟨ok.n0,ok.n1,ok.last,ok.wait,ok.armed0,ok.armed1,ok.part,λ j hj=>by cases hj;exact hi,by simp;omega⟩
 ·exact((HU1.out.late HU2.out (by simp)).set _ (.inl (by simp))).set _ (.inl (by simp))
theorem Cc7{w:World}{F:Nat->Prop}{g:DG}{D:Dk}(h:C9 w F g D)(i:Nat)(v:Value)(b:List UInt8)(hr:Rd w v b)(hoff:D.off=false)(hi:i<D.n)(hb:b.length=512)(harm:D.armed≠0) :
  Calls Tryz.prog 214 #[.pointer (some ⟨g.db,0,none⟩),.int .i64 (i:Int),v] w λ e w'=>e=.returned (.int .i64 0)/\C9 w' (Gr F w.heap.size) g { D.step with wait:=λ j=>if j=i then some b else D.wait j,writes:=wrap64 (D.writes+1) }/\Upd [g.db,g.mb] w w':=by
 have H:=η h;have hm:D.may i=0:=Dk.may_of hoff (by omega) (by omega);have hm':(D.may i != 0)=false:=by simp[hm]
 have ha:(D.armed != 0)=true:=by simpa using harm
 have HA:=η harm;have HR:=η hr;have HB:=η hb;obtain⟨ao,cap,rfl,hcap,_⟩:=id hr;have hn':((b.length:Int) != 512)=false:=by simp[hb]
 clear h hm harm hr hb;go_enter Tryz.func214,Tryz.ntmps214
 go_wp2_with (first | (go_at_call 181;refine(V3 H.out _).mono ?_;rintro e w' ⟨rfl,rfl⟩) | fail)
 refine(Ak2 H.out).mono ?_;rintro e w1 ⟨rfl,hD1,hu1⟩;have hgone:D.gone=D.step:=by unfold Dk.gone;rw[if_neg HA.out]
 rw[hgone] at hD1;have HR1:=η (HR.out.disk H.out hu1 (by simp));have HD1:=η hD1;obtain⟨fv,a1,_⟩:=hD1.st;have hc:=A4 a1;have HA1:=η a1;have HU1:=η hu1;have hlt:g.db<w1.heap.size:=hD1.lt.1;have hcm:w1.cell? ⟨g.db,1,none⟩=some (.map (some g.mb)):=by rw[hc];rfl
 obtain⟨f,hf,hf1,hf2⟩:=hD1.wait;have hfW:P6 (w1.alloc (.cells (bts (pad b)).toArray 5)).drew g.mb f:=hf.world (A9 hf.lt);obtain⟨o,hrun,hmap⟩:=hfW.update (P:=Tryz.prog) (T:=151) Tryz.underlying151 Tryz.underlying3 (i:Int) (.slice (some ⟨w1.heap.size,0,none⟩) 512 512);have hkeep:(ChangeMaps.setBlock (w1.alloc (.cells (bts (pad b)).toArray 5)).drew g.mb o).cell? ⟨g.db,1,none⟩=some (.map (some g.mb)):=by
  rw[World.cell?_of_block (w:=w1)]
  ·exact hcm
  ·rw[K1 _ (Ne.symm hD1.ne2)];exact A9 hlt
 have HM:=η hmap;have HF1:=η hf1;have HF2:=η hf2;clear hgone hD1 hu1 a1 hf hfW hmap hf1 hf2 hc;go_wp2_with fail
 go_region_held3 (λ w'=>w'.cell? ⟨g.db,1,none⟩=some (.map (some g.mb))) (go_keep)
  (first | (go_at_call 101;refine(Am0 _ b _ ?_).mono ?_;exact HR1.out;rintro e w' ⟨rfl,rfl⟩))
 have eW:∀k,k<w1.heap.size->k≠g.mb->(ChangeMaps.setBlock (w1.alloc (.cells (bts (pad b)).toArray 5)).drew g.mb o).heap[k]?=w1.heap[k]?:=λ k hk hne=>by
  rw[K1 _ hne];exact A9 hk
 have eN:(ChangeMaps.setBlock (w1.alloc (.cells (bts (pad b)).toArray 5)).drew g.mb o).heap[w1.heap.size]?=some (.cells (bts (pad b)).toArray 5):=by
  rw[K1 _ (by have:=HD1.out.lt.2.2;omega)];exact A6 _
 have eU:Upd [g.mb] w1 (ChangeMaps.setBlock (w1.alloc (.cells (bts (pad b)).toArray 5)).drew g.mb o):=((Upd.refl _ _).alloc _).drew.setBlock _ (.inl (by simp));generalize ChangeMaps.setBlock (w1.alloc (.cells (bts (pad b)).toArray 5)).drew g.mb o=W at *;have aW:W.heap[g.db]?=_:=(eW _ hlt (Ne.symm HD1.out.ne2)).trans HA1.out;have hcW:=A4 aW;have hfW:=E4 aW;have HE:=η eW;have HN:=η eN;have HU:=η eU;have HAW:=η aW;clear eW eN eU aW hkeep hrun hcm;go_wp2
 go_ret;have hw:D.step.writes=D.writes:=by unfold Dk.step;split<;>rfl
 have hwt:D.step.wait=D.wait:=by unfold Dk.step;split<;>rfl
 have hs1:=HU1.out.size;refine⟨rfl,?_,?_⟩
 ·have ha:∀k c,F k->w1.heap[k]?=some (.cells c 5 (0,0))->W.heap[k]?=w1.heap[k]?:=λ k c _ hk=>
   HE.out k (A2 hk) (λ e=>HD1.out.byte hk (by simp[e]))
  have hDW:C9 W (Gr F w.heap.size) g { D.step with wait:=λ j=>if j=i then some b else D.wait j }:=by
   obtain⟨⟨fv',q1,q2⟩,⟨lv,b1,b2,b3⟩,_,ok⟩:=HD1.out;refine⟨⟨fv',(HE.out _ hlt (Ne.symm HD1.out.ne2)).trans q1,(q2.world ha).mono Gr.old⟩,⟨lv,(HE.out _ HD1.out.lt.2.1 (Ne.symm HD1.out.ne3)).trans b1,b2,λ j v hv=>((b3 j v hv).world ha).mono Gr.old⟩,⟨_,HM.out,?_,?_⟩,?_⟩
   ·intro k v hk;by_cases hki:k=(i:Int)
    ·rw[if_pos hki] at hk;cases hk
     refine⟨by omega,b,by simp[hki],⟨w1.heap.size,[],.inr hs1,by simp[HB.out],?_⟩⟩;rw[HN.out,Av4 HB.out];simp
    ·rw[if_neg hki] at hk;obtain⟨k0,s,e1,o1⟩:=HF1.out k v hk;exact⟨k0,s,by rw[hwt] at e1;show(if k.toNat=i then some b else D.wait k.toNat)=some s;rw[if_neg (by omega)];exact e1,(o1.world ha).mono Gr.old⟩
   ·intro j s hj;by_cases hji:(j:Int)=(i:Int)
    ·exact⟨_,if_pos hji⟩
    ·obtain⟨v,hv⟩:=HF2.out j s (by rw[hwt];rw[← hj];show D.wait j=if j=i then some b else D.wait j;rw[if_neg (by omega)]);exact⟨v,by rw[if_neg hji];exact hv⟩
   ·refine⟨ok.n0,ok.n1,ok.last,?_,ok.armed0,ok.armed1,ok.part,ok.way,ok.front⟩;intro j s hj;have hn:D.step.n=D.n:=by unfold Dk.step;split<;>rfl
    by_cases hji:j=i
    ·simp only[if_pos hji,Option.some.injEq] at hj;subst hj;exact⟨by show j<D.step.n;omega,HB.out⟩
    ·simp only[if_neg hji] at hj;exact ok.wait j s (by rw[hwt];exact hj)
  obtain⟨fv',q1,q2⟩:=hDW.st;refine hDW.re ⟨fv',?_,?_⟩ (λ k _ hk=>E7 _ _ hk) rfl rfl rfl ?_
  ·rw[B3 q1];simp[hw]
  ·exact q2.world (λ k c _ hk=>E7 _ _ (by rintro rfl;rw[q1] at hk;simp at hk))
  ·have ok:=hDW.ok;exact⟨ok.n0,ok.n1,ok.last,ok.wait,ok.armed0,ok.armed1,ok.part,ok.way,ok.front⟩
 ·exact((HU1.out.mono (by simp)).trans (HU.out.mono (by simp))).set _ (.inl (by simp))
end Go.Proofs.YtgfbepakonjbnaaGreat
namespace Go.Proofs.YtgfbepakonjbnaaGreat
open Go.RowKit
theorem Dk.step_wait(D:Dk):D.step.wait=D.wait:=by unfold Dk.step;split<;>rfl
theorem Dk.step_last(D:Dk):D.step.last=D.last:=by unfold Dk.step;split<;>rfl
theorem Dk.step_n(D:Dk):D.step.n=D.n:=by unfold Dk.step;split<;>rfl
theorem Dk.step_off(D:Dk):D.step.off=D.off:=by unfold Dk.step;split<;>rfl
def Bu9(w1:World)(g:DG)(es:Array MapEntry)(clock:Nat)(lv:List Value)(wr:World):Prop:=
 ∃(seen:Array Nat) (c:Nat) (lv':List Value),clock<=c/\wr.heap[w1.heap.size]?=some (.mapIter (some g.mb) clock seen c)/\wr.heap[g.lb]?=some (.cells lv'.toArray 32 (0,0))/\lv'.length=lv.length/\
  (∀(i:Nat) (v:Value),lv'[i]?=some v->(∃e∈es.toList,seen.contains e.born=true/\e.key=.int .i64 (i:Int)/\e.val=v)∨((∀e∈es.toList,e.key=.int .i64 (i:Int)->seen.contains e.born=false)/\lv[i]?=some v))/\
  Upd [g.lb] w1 wr
def Bg0(es:Array MapEntry)(r:Nat)(wr:World):Nat:=(leftOf es (wr.iterSeen r)).size
theorem As3{w:World}{r:Nat}{m:Option Nat}{s:Nat}{seen:Array Nat}{c:Nat}(h:w.heap[r]?=some (.mapIter m s seen c)):w.iterSeen r=seen:=by
 unfold World.iterSeen;rw[h]
theorem Bu9.step{w1:World}{g:DG}{es:Array MapEntry}{clock:Nat}{lv:List Value}{W:World}{seen:Array Nat}{lv':List Value}{c:Nat}{key:Int}{val:Value}{born j:Nat}
  (hcl:clock<=c) (hit:W.heap[w1.heap.size]?=some (.mapIter (some g.mb) clock (seen.push born) c)) (hlb:W.heap[g.lb]?=some (.cells lv'.toArray 32 (0,0))) (hlen:lv'.length=lv.length)
  (hlv:∀(i:Nat) (v:Value),lv'[i]?=some v->(∃e∈es.toList,seen.contains e.born=true/\e.key=.int .i64 (i:Int)/\e.val=v)∨((∀e∈es.toList,e.key=.int .i64 (i:Int)->seen.contains e.born=false)/\lv[i]?=some v))
  (hu:Upd [g.lb] w1 W) (hj:key=(j:Int)) (hne:g.lb≠w1.heap.size)
  (he:(⟨.int .i64 key,val,born⟩:MapEntry)∈es.toList) (hst:MapKept.Stamped es clock):Bu9 w1 g es clock lv (W.setCell ⟨g.lb,j,none⟩ val):=by
 refine⟨seen.push born,c,lv'.set j val,hcl,?_,?_,by simpa using hlen,?_,hu.set _ (.inl (by simp))⟩
 ·rw[E7 _ _ (Ne.symm hne)];exact hit
 ·rw[B3 hlb];simp
 ·intro i v hv;rw[List.getElem?_set] at hv;have hkeys:(es.toList.map (·.key)).Nodup:=hst.2.2;have hborn:(es.toList.map (·.born)).Nodup:=hst.2.1;have uniq:∀e∈es.toList,e.key=.int .i64 key->e=⟨.int .i64 key,val,born⟩:=by
   intro e hm hk;obtain⟨a,ha⟩:=List.getElem?_of_mem hm;obtain⟨b,hb⟩:=List.getElem?_of_mem he;have l1:a<(es.toList.map (·.key)).length:=by rw[List.length_map];exact(List.getElem?_eq_some_iff.1 ha).1
   have:=(List.getElem?_inj l1 hkeys).1 (show(es.toList.map (·.key))[a]?=(es.toList.map (·.key))[b]? by rw[List.getElem?_map,List.getElem?_map,ha,hb];simp[hk]);subst this;rw[ha] at hb;exact Option.some.inj hb
  have uniqb:∀e∈es.toList,e.born=born->e=⟨.int .i64 key,val,born⟩:=by
   intro e hm hk;obtain⟨a,ha⟩:=List.getElem?_of_mem hm;obtain⟨b,hb⟩:=List.getElem?_of_mem he;have l1:a<(es.toList.map (·.born)).length:=by rw[List.length_map];exact(List.getElem?_eq_some_iff.1 ha).1
   have:=(List.getElem?_inj l1 hborn).1 (show(es.toList.map (·.born))[a]?=(es.toList.map (·.born))[b]? by rw[List.getElem?_map,List.getElem?_map,ha,hb];simp[hk]);subst this;rw[ha] at hb;exact Option.some.inj hb
  by_cases hji:j=i
  ·subst hji;simp only[if_true] at hv;split at hv
   ·cases hv
    exact .inl ⟨_,he,by simp,by rw[hj],rfl⟩
   ·simp at hv
  ·rw[if_neg hji] at hv;rcases hlv i v hv with⟨e,h1,h2,h3,h4⟩ | ⟨h1,h2⟩
   ·exact .inl ⟨e,h1,by rw[contains_push,h2];rfl,h3,h4⟩
   ·refine .inr ⟨λ e hm hk=>?_,h2⟩;rw[contains_push,h1 e hm hk,Bool.false_or];refine beq_eq_false_iff_ne.2 λ hb=>?_;have:=uniqb e hm hb;rw[this] at hk;simp at hk;omega
theorem Bx5{w:World}{F:Nat->Prop}{g:DG}{D:Dk}(h:C9 w F g D)(hoff:D.off=true) :
  Calls Tryz.prog 213 #[.pointer (some ⟨g.db,0,none⟩)] w λ e w'=>e=.returned (.int .i64 8)/\w=w':=by
 have H:=η h;have hm:D.may 0=8:=by unfold Dk.may;rw[hoff];simp
 have hm':(D.may 0 != 0)=true:=by simp[hm]
 have HM:=η hm;clear h hm;go_enter Tryz.func213,Tryz.ntmps213
 go_wp2_with (go_at_call 181;refine(V3 H.out _).mono ?_;rintro e w' ⟨rfl,rfl⟩)
 go_ret;exact⟨M0 HM.out,rfl⟩
theorem Br0{w:World}{F:Nat->Prop}{g:DG}{D:Dk}(h:C9 w F g D)(hoff:D.off=false)(harm:D.armed=0) :
  Calls Tryz.prog 213 #[.pointer (some ⟨g.db,0,none⟩)] w λ e w'=>e=.returned (.int .i64 8)/\C9 w' F g { D with off:=true }/\Upd [g.db] w w':=by
 have H:=η h;have hm:D.may 0=0:=Dk.may_of hoff (by omega) (by have:=h.ok.n0;omega);have hm':(D.may 0 != 0)=false:=by simp[hm]
 have ha:(D.armed != 0)=false:=by simp[harm]
 have HA:=η harm;clear h hm harm;go_enter Tryz.func213,Tryz.ntmps213
 go_wp2_with (first | (go_at_call 181;refine(V3 H.out _).mono ?_;rintro e w' ⟨rfl,rfl⟩) | fail)
 refine(Ak2 H.out).mono ?_;rintro e w1 ⟨rfl,hD1,hu1⟩;have hgone:D.gone = { D with off:=true }:=by unfold Dk.gone;rw[if_pos HA.out]
 rw[hgone] at hD1;have HD1:=η hD1;have HU1:=η hu1;clear hgone hD1 hu1;go_wp2
 go_ret;exact⟨rfl,HD1.out,HU1.out⟩
theorem Cc8{w:World}{F:Nat->Prop}{g:DG}{D:Dk}(h:C9 w F g D)(hoff:D.off=false)(harm:D.armed≠0) :
  Calls Tryz.prog 213 #[.pointer (some ⟨g.db,0,none⟩)] w λ e w'=>e=.returned (.int .i64 0)/\C9 w' F g { D.step with last:=D.now,wait:=λ _=>none }/\Upd [g.db,g.lb,g.mb] w w':=by
 have H:=η h;have hm:D.may 0=0:=Dk.may_of hoff (by omega) (by have:=h.ok.n0;omega);have hm':(D.may 0 != 0)=false:=by simp[hm]
 have ha:(D.armed != 0)=true:=by simpa using harm
 have HA:=η harm;clear h hm harm;go_enter Tryz.func213,Tryz.ntmps213
 go_wp2_with (first | (go_at_call 181;refine(V3 H.out _).mono ?_;rintro e w' ⟨rfl,rfl⟩) | fail)
 refine(Ak2 H.out).mono ?_;rintro e w1 ⟨rfl,hD1,hu1⟩;have hgone:D.gone=D.step:=by unfold Dk.gone;rw[if_neg HA.out]
 rw[hgone] at hD1;have HD1:=η hD1;have HU1:=η hu1;obtain⟨fv,a1,a2⟩:=hD1.st;obtain⟨lv,b1,b2,b3⟩:=hD1.last;obtain⟨f,hf,hf1,hf2⟩:=hD1.wait;obtain⟨es,clock,hb,hst,hkey,hfe⟩:=id hf;have hc:=A4 a1;have hrg:=run_range_map (P:=Tryz.prog) w1 151 3 32 g.mb es clock Tryz.underlying151 hb;have HA1:=η a1;have HB1:=η b1;have HB:=η hb;have hlt1:=hD1.lt.1;have hlt2:=hD1.lt.2.1;have hlt3:=hD1.lt.2.2;have HNE1:=η hD1.ne1;have HNE2:=η hD1.ne2;have HNE3:=η hD1.ne3;have HST:=η hst;have HKEY:=η hkey;have HFE:=η hfe;have HF1:=η hf1;have HF2:=η hf2;have HB2:=η b2;have HB3:=η b3;have HF:=η hf;clear hgone hD1 hu1 a1 a2 b1 b2 b3 hf hf1 hf2 hb hst hkey hfe;go_wp2
 go_loopw [19] (λ _ wr=>Bu9 w1 g es clock lv wr) (λ _ wr=>Bg0 es w1.heap.size wr)
 case atStart=>
  refine⟨#[],clock,lv,Nat.le_refl _,A6 _,(A9 hlt2).trans HB1.out,rfl,?_,(Upd.refl _ _).alloc _⟩;intro i v hv;exact .inr ⟨by simp,hv⟩
 case round=>
  obtain⟨seen,c,lv',hcl,hit,hlb,hlen,hlv,hu⟩:=hrel;have hmb:wr.heap[g.mb]?=some (.map es clock):=(hu.block _ hlt3 (by simpa using HNE3.out)).trans HB.out;have hdb:wr.heap[g.db]?=_:=(hu.block _ hlt1 (by simpa using Ne.symm HNE1.out)).trans HA1.out;have hsz:=hu.size;rcases run_next_at (P:=Tryz.prog) wr 0 w1.heap.size g.mb clock c seen es clock hit hmb HST.out.1 hcl with⟨hz,hnx⟩ | ⟨e,hel,wq,hwq,hnx⟩
  ·have hnx':∀ty,(Instr.next (.pointer (some ⟨w1.heap.size,0,none⟩)) false ty).run Tryz.prog wr=.ok (.tuple #[.bool false]) wr:=λ _=>hnx;have hcd:=A4 hdb;obtain⟨o,hclr,hmap⟩:=(HF.out.world (hmb.trans HB.out.symm)).clear (P:=Tryz.prog) (T:=151) Tryz.underlying151 0;have hclr':∀ty,(Builtin.clear_ #[151] ty #[.map (some g.mb)]).run Tryz.prog wr=.ok (.tuple #[]) (ChangeMaps.setBlock wr g.mb o):=λ _=>hclr;have HMAP:=η hmap;have HLB:=η hlb;have HDB:=η hdb;have HLV:=η hlv;have HLEN:=η hlen;have HU:=η hu;have HZ:=η hz;clear hclr hmap hlb hdb hlv hlen hu hz hnx hmb hit hc hrg;go_wp2
   go_ret;have hs1:=HU1.out.size;have hall:∀e∈es.toList,seen.contains e.born=true:=by
    intro e he;cases hq:seen.contains e.born with
    | true=>rfl
    | false=>
     exfalso
     have hm:e∈(leftOf es seen).toList:=by
      unfold leftOf;simp only[Array.mem_toList_iff,Array.mem_filter] at he ⊢;exact⟨he,by rw[hq];rfl⟩
     have:=List.length_pos_of_mem hm;rw[Array.length_toList,HZ.out] at this;omega
   have hnowF:∀i v,lv'[i]?=some v->As2 w1 F v (D.now i):=by
    intro i v hv;rcases HLV.out i v hv with⟨e,h1,_,h3,h4⟩ | ⟨h1,h2⟩
    ·have hfi:f (i:Int)=some v:=(HFE.out _ _).2 ⟨e,h1,h3,h4⟩;obtain⟨_,s,e1,o1⟩:=HF1.out _ _ hfi;have e2:D.wait i=some s:=by rw[← Dk.step_wait];simpa using e1
     have:D.now i=s:=by simp[Dk.now,e2]
     rw[this];exact .inr o1
    ·have hno:D.wait i=none:=by
      cases hq:D.wait i with
      | none=>rfl
      | some s=>
       obtain⟨v2,hv2⟩:=HF2.out i s (by rw[Dk.step_wait];exact hq);obtain⟨e,he,hk,_⟩:=(HFE.out _ _).1 hv2;have a:=hall e he;have b:=h1 e he hk;rw[a] at b;simp at b
     have:D.now i=D.step.last i:=by simp[Dk.now,hno,Dk.step_last]
     rw[this];exact HB3.out i v h2
   have ha:∀k c,F k->w1.heap[k]?=some (.cells c 5 (0,0))->(ChangeMaps.setBlock wr g.mb o).heap[k]?=w1.heap[k]?:=by
    intro k c _ hk;have hq:=HD1.out.byte hk;simp only[List.mem_cons,List.not_mem_nil,or_false,not_or] at hq;rw[K1 _ hq.2.2];exact HU.out.block _ (A2 hk) (by simpa using hq.2.1)
   refine⟨rfl,⟨?_,?_,?_,?_⟩,?_⟩
   ·obtain⟨fv',q1,q2⟩:=HD1.out.st;refine⟨fv',?_,q2.world ha⟩;rw[K1 _ (Ne.symm HNE2.out)];exact(HU.out.block _ hlt1 (by simpa using Ne.symm HNE1.out)).trans q1
   ·refine⟨lv',?_,by rw[HLEN.out];exact HB2.out,λ i v hv=>(hnowF i v hv).world ha⟩;rw[K1 _ (Ne.symm HNE3.out)];exact HLB.out
   ·exact⟨_,HMAP.out,by simp,by simp⟩
   ·have ok:=Dk.step_ok H.out.ok;refine⟨ok.n0,ok.n1,?_,by simp,ok.armed0,ok.armed1,ok.part,ok.way,ok.front⟩;intro i;show(D.now i).length=512
    unfold Dk.now;cases hq:D.wait i with
    | none=>exact H.out.ok.last i
    | some s=>exact(H.out.ok.wait i s hq).2
   ·exact((HU1.out.mono (by simp)).trans (HU.out.mono (by simp))).setBlock _ (.inl (by simp))
  ·obtain⟨key,val,born⟩:=e;have hel2:=(mem_left hel).1;obtain⟨kk,ek⟩:=HKEY.out _ hel2;simp only at ek hnx;subst ek;obtain⟨h0,s,e1,o1⟩:=HF1.out kk val ((HFE.out _ _).2 ⟨_,hel2,rfl,rfl⟩);obtain⟨j,rfl⟩:=Int.eq_ofNat_of_zero_le h0;have hjn:j<D.n:=(H.out.ok.wait j s (by rw[← Dk.step_wait];simpa using e1)).1;obtain⟨kb,rest,_,rfl,_⟩:=o1;have hjl:j<lv'.length:=by rw[hlen,HB2.out,Dk.step_n];exact hjn
   obtain⟨W,hW⟩:∃W,W=ChangeMaps.setBlock wq w1.heap.size (.mapIter (some g.mb) clock (seen.push born) clock):=⟨_,rfl⟩;rw[← hW] at hnx;have hWo:∀k,k≠w1.heap.size->W.heap[k]?=wr.heap[k]?:=by
    intro k hk;rw[hW,K1 _ hk];rcases hwq with rfl | rfl<;>rfl
   have hWi:W.heap[w1.heap.size]?=some (.mapIter (some g.mb) clock (seen.push born) clock):=by
    rw[hW];refine Z5 (o:=.mapIter (some g.mb) clock seen c) ?_;rcases hwq with rfl | rfl<;>exact hit
   have hWu:Upd [g.lb] w1 W:=by
    rw[hW];refine Upd.setBlock ?_ _ (.inr (Nat.le_refl _));rcases hwq with rfl | rfl
    ·exact hu
    ·exact hu.drew
   have hnx':∀ty,(Instr.next (.pointer (some ⟨w1.heap.size,0,none⟩)) false ty).run Tryz.prog wr=_:=λ _=>hnx;have hen:=run_entry_at (P:=Tryz.prog) W w1.heap.size g.mb clock seen es clock _ hWi ((hWo _ (by omega)).trans hmb) hel2 HST.out.2.1;simp only at hen;have hdW:W.heap[g.db]?=_:=(hWo _ (by omega)).trans hdb;have hlW:W.heap[g.lb]?=_:=(hWo _ (by omega)).trans hlb;have hcd:=A4 hdW;have hcl2:W.cell? ⟨g.lb,j,none⟩=some lv'[j]:=by rw[A4 hlW];simp[hjl]
   have hfl:W.frozen? ⟨g.lb,j,none⟩=false:=E4 hlW j;have hstep:=Bu9.step (es:=es) (lv:=lv) (val:=.slice (some ⟨kb,0,none⟩) s.length (s.length+rest.length)) (Nat.le_refl clock) hWi hlW hlen hlv hWu rfl (by omega) hel2 HST.out;have hmeas:Bg0 es w1.heap.size (W.setCell ⟨g.lb,j,none⟩ (.slice (some ⟨kb,0,none⟩) s.length (s.length+rest.length)))<Bg0 es w1.heap.size wr:=by
    unfold Bg0;rw[As3 hit,As3 (by rw[E7 _ _ (by omega)];exact hWi)];exact left_shrinks es seen _ hel
   have hjn1:(j:Int)<(D.step.n:Int):=by rw[Dk.step_n];omega
   have HSTEP:=η hstep;have HMEAS:=η hmeas;clear hstep hmeas hW hWo hWi hWu hdW hlW hlen hlv hu hit hmb hdb hlb hnx hel hel2 hc hrg e1 hwq;go_wp2
   go_roundw
   case rel=>exact HSTEP.out
   case measure=>exact HMEAS.out
end Go.Proofs.YtgfbepakonjbnaaGreat
namespace Go.Proofs.YtgfbepakonjbnaaGreat
open Go.RowKit Go.Maps Go.Sort Go.Shelf
def Ad2(f:Int->Option Value)(N:Nat):List Nat:=(List.range N).filter λ i=>(f (i:Int)).isSome
theorem Co1(m:Nat):AnyZI.SortsIn Tryz.prog Tryz.sortedA_ren Fence.wide m:=
 ⟨λ blk off cap ss W hH hblk hsz=>callsIn_wide.2 (AnyM.slices_Sort_int Tryz.sortA blk off cap ss W hH hblk hsz),
 λ p cap W=>callsIn_wide.2 (AnyM.slices_Sort_int_none Tryz.sortA p cap W)⟩
theorem Bc9(mb:Option Nat)(w:World):Calls Tryz.prog 87 #[.map mb] w λ e w'=>e=.returned (.func (.func 175) #[] #[.pointer (some ⟨w.heap.size,0,none⟩)])/\w.alloc (.cells #[.map mb] 151)=w':=
 (callsIn_wide.1 (AnyZI.keys_in Tryz.keysA Fence.wide 5 trivial rfl mb w)).mono λ _ _ ⟨h1,h2⟩=>⟨h1,h2.symm⟩
theorem An6:∀(N:Nat) (l:List Int),l.Nodup->(∀x∈l,0<=x/\x<N)->l.length<=N
 | 0,l,_,h=>by
  cases l with
  | nil=>simp
  | cons a l=>have:=h a (by simp);omega
 | N+1,l,hn,h=>by
  by_cases hm:(N:Int)∈l
  ·have h1:=An6 N (l.erase (N:Int)) (hn.erase _) (λ x hx=>by
    have:=(hn.mem_erase_iff).1 hx;have:=h x this.2;omega)
   rw[List.length_erase_of_mem hm] at h1;omega
  ·have:=An6 N l hn (λ x hx=>by
    have h2:=h x hx;have:x≠(N:Int):=λ e=>hm (e ▸ hx);omega)
   omega
def Ak3(_:Value):Option (DataW Unit × List MemPlace):=some (.nil,[])
theorem P6.owns{w:World}{mb:Nat}{f:Int->Option Value}(h:P6 w mb f)(N:Nat)(hN:N<=100000)(hf:∀k v,f k=some v->0<=k/\k<N) :
  ∃D0:DataW Unit,w.ownsMap Tryz.prog 3 Ak3 mb N D0/\Maps.size D0<=N/\(intKeys D0).Perm ((Ad2 f N).map λ i:Nat=>(i:Int)):=by
 obtain⟨es,clock,hb,hst,hk,hfe⟩:=h;have hkl:∀x∈es.toList,∃k:Int,x.key=.int .i64 k/\0<=k/\k<N:=by
  intro x hx;obtain⟨k,e⟩:=hk x hx;exact⟨k,e,hf k x.val ((hfe k x.val).2 ⟨x,hx,e,rfl⟩)⟩
 have hrg:∀x∈es.toList,∀k:Int,x.key=.int .i64 k->WideElems.rd Tryz.prog 3 Ak3 x=some (.int .i64 k,.nil):=by
  intro x hx k e;obtain⟨k',e',h0,h1⟩:=hkl x hx;rw[e] at e';obtain rfl:k=k':=by simpa using e'
  have hko:=keyOf_int_mk (P:=Tryz.prog) (q:=.i64) (a:=k) Tryz.underlying3 (WalkArith.wf_i64 (by omega));simp[WideElems.rd,e,hko,Ak3]
 have hkeys:intKeys (.map ((es.toList.map (WideElems.rg Tryz.prog 3 Ak3)).foldr DataW.insert []):DataW Unit)=((es.toList.map (WideElems.rg Tryz.prog 3 Ak3)).foldr DataW.insert []).map (λ p=>_root_.Go.intOf p.1):=rfl;have hp1:(intKeys (.map ((es.toList.map (WideElems.rg Tryz.prog 3 Ak3)).foldr DataW.insert []):DataW Unit)).Perm (es.toList.map (λ x=>RowKit.intOf x.key)):=by
  rw[hkeys];refine((WideShapes.sorted_perm _).map _).trans ?_;rw[List.map_map];refine List.Perm.of_eq (List.map_congr_left λ x hx=>?_);obtain⟨k,e,_⟩:=hkl x hx;simp[WideElems.rg,hrg x hx k e,_root_.Go.intOf,RowKit.intOf,e]
 have hnd:(es.toList.map (λ x=>RowKit.intOf x.key)).Nodup:=by
  have hq:(es.toList.map (·.key)).Nodup:=hst.2.2;rw[List.Nodup,List.pairwise_map] at hq ⊢;refine hq.imp_of_mem fun {a b} ha hb' hne e=>hne ?_;obtain⟨q,e1,_⟩:=hkl a ha;obtain⟨r,e2,_⟩:=hkl b hb';rw[e1,e2] at e ⊢;simp[RowKit.intOf] at e;rw[e]
 have hmem:∀k:Int,k∈es.toList.map (λ x=>RowKit.intOf x.key)↔∃v,f k=some v:=by
  intro k;rw[List.mem_map];constructor
  ·rintro⟨x,hx,e⟩;obtain⟨q,e1,_⟩:=hkl x hx;rw[e1] at e;simp[RowKit.intOf] at e;subst e;exact⟨x.val,(hfe q x.val).2 ⟨x,hx,e1,rfl⟩⟩
  ·rintro⟨v,hv⟩;obtain⟨x,hx,e1,_⟩:=(hfe k v).1 hv;exact⟨x,hx,by rw[e1];rfl⟩
 have hlen:es.size<=N:=by
  have:=An6 N _ hnd (λ k hk'=>by obtain⟨v,hv⟩:=(hmem k).1 hk';exact hf k v hv);simpa using this
 refine⟨_,⟨es,clock,hb,⟨by unfold maxLen;omega,hst,λ x hx=>?_⟩,hlen,rfl⟩,?_,?_⟩
 ·obtain⟨k,e,_⟩:=hkl x hx;exact⟨_,hrg x hx k e⟩
 ·rw[Maps.size_eq,length_sorted];simpa using hlen
 ·refine hp1.trans ?_;refine(List.perm_ext_iff_of_nodup hnd ?_).2 λ k=>?_
  ·rw[List.Nodup,List.pairwise_map];refine List.Pairwise.filter _ (List.pairwise_lt_range.imp ?_);intro a b hab e;omega
  ·rw[hmem k,List.mem_map];constructor
   ·rintro⟨v,hv⟩;have h2:=hf k v hv;refine⟨k.toNat,?_,by omega⟩;unfold Ad2;rw[List.mem_filter,List.mem_range];refine⟨by omega,?_⟩;rw[Int.toNat_of_nonneg h2.1,hv];rfl
   ·rintro⟨i,hi,rfl⟩;unfold Ad2 at hi;rw[List.mem_filter] at hi;exact Option.isSome_iff_exists.1 hi.2
theorem As4{w:World}{mb:Nat}{f:Int->Option Value}(h:P6 w mb f)(N:Nat)(hN:N<=100000)(hf:∀k v,f k=some v->0<=k/\k<N) :
  Calls Tryz.prog 86 #[.func (.func 175) #[] #[.pointer (some ⟨w.heap.size,0,none⟩)]] (w.alloc (.cells #[.map (some mb)] 151)) λ e w'=>∃v,e=.returned v/\
   w'.ownsRow w.heap.size 3 1 v (Ad2 f N).length ((Ad2 f N).map λ i:Nat=> .int .i64 (i:Int))/\Upd [] w w':=by
 obtain⟨D0,hown,hsz,hperm⟩:=h.owns N hN hf;have hbl:=hown.lt;have hseq:SeqGives Fence.wide 2 Tryz.prog 175 #[.pointer (some ⟨w.heap.size,0,none⟩)] encZ (λ ss=>ss.Perm (intKeys D0)) (Maps.size D0) (w.alloc (.cells #[.map (some mb)] 151)):=
  AnyZI.keys_gives (ρ:=Tryz.keysA_ren) { Tryz.keysA with } Fence.wide _ trivial rfl (by omega) w.heap.size mb N D0 _ (by simp) (by simp) (by
   obtain⟨es,clock,hb,Ft,hs,hD⟩:=hown;exact⟨es,clock,(Below.heap_alloc _ _ mb hbl).trans hb,Ft,hs,hD⟩)
 have cS:=AnyZI.sorted_in Tryz.sortedA Fence.wide 5 trivial trivial trivial trivial rfl (by omega) (Co1 _) (enters_of Tryz.func174 (by kernel_rfl) rfl) 175 #[.pointer (some ⟨w.heap.size,0,none⟩)] trivial (enters_of Tryz.func175 (by kernel_rfl) rfl) _ _ (by unfold maxLen;omega) (by omega) _ hseq;refine(callsIn_wide.1 cS).mono ?_;rintro e w' ⟨v,ss,rfl,hS,hrow,_,hb⟩;have hms:(ss.mergeSort λ x y=>decide (x<=y))=(Ad2 f N).map λ i:Nat=>(i:Int):=by
  refine List.Perm.eq_of_pairwise (le:=λ a b=>decide (a<=b)=true) (λ a b _ _ h1 h2=>?_) (List.pairwise_mergeSort (λ a b c h1 h2=>?_) (λ a b=>?_) ss) ?_ ((List.mergeSort_perm ss _).trans (hS.trans hperm))
  ·simp only[decide_eq_true_eq] at h1 h2;omega
  ·simp only[decide_eq_true_eq] at h1 h2 ⊢;omega
  ·simp only[Bool.or_eq_true,decide_eq_true_eq];omega
  ·rw[List.pairwise_map];refine List.Pairwise.filter _ (List.pairwise_lt_range.imp ?_);intro a b hab;simp only[decide_eq_true_eq];omega
 have hln:ss.length=(Ad2 f N).length:=by
  have:=congrArg List.length hms;simpa using this
 refine⟨v,rfl,?_,?_⟩
 ·rw[hms,hln,List.map_map] at hrow;exact ownsRow_base_a hrow (by simp)
 ·exact((Upd.refl _ _).alloc _).trans ⟨hb.os,hb.tape,hb.output,hb.size,λ k hk _=>hb.block k hk⟩
end Go.Proofs.YtgfbepakonjbnaaGreat
namespace Go.Proofs.YtgfbepakonjbnaaGreat
open Go.RowKit
def RdL(w:World)(S:List Nat)(v:Value)(cs:List Value):Prop:=
 ∃ao cap,v=.slice ao cs.length cap/\cs.length<=cap/\
  (0<cs.length->∃b off,b∉S/\ao=some ⟨b,off,none⟩/\∀i (h:i<cs.length),w.cell? ⟨b,off+i,none⟩=some cs[i])
theorem RdL.upd{w w':World}{S T:List Nat}{v:Value}{cs:List Value}(h:RdL w S v cs)(hu:Upd T w w')(hT:∀k,k∈T->k∈S):RdL w' S v cs:=by
 obtain⟨ao,cap,e,hc,hh⟩:=h;refine⟨ao,cap,e,hc,λ hp=>?_⟩;obtain⟨b,off,hb,rfl,hcell⟩:=hh hp;refine⟨b,off,hb,rfl,λ i hi=>?_⟩;have hl:=hcell i hi;rw[World.cell?_of_block (w:=w) (hu.block _ (block_lt_of_cell hl) (λ q=>hb (hT _ q)))];exact hl
theorem RdL.of_row{w:World}{base:Nat}{e:TypeId}{v:Value}{cs:List Value}(h:w.ownsRow base e 1 v cs.length cs){S:List Nat}(hS:∀k c,w.heap[k]?=some (.cells c e (0,0))->k∉S):RdL w S v cs:=by
 rcases h.2 with⟨rfl,h0⟩ | ⟨g,cap,cur,rfl,hb,hg,hc,_,hs,ht⟩
 ·have:cs=[]:=List.eq_nil_of_length_eq_zero h0;subst this;exact⟨none,0,rfl,by simp,by simp⟩
 ·refine⟨_,cap,rfl,hc,λ _=>⟨g,0,hS _ _ hg,rfl,λ i hi=>?_⟩⟩;rw[A4 hg];rw[Nat.mul_one] at ht;have:cs[i]?=cur[0+i]?:=by
   rw[← ht,List.getElem?_take,if_pos hi];simp
  rw[← this,List.getElem?_eq_getElem hi]
end Go.Proofs.YtgfbepakonjbnaaGreat
end
