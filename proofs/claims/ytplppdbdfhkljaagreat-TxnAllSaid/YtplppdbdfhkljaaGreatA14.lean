/-
  The document's Commit, plain: the bytes of a header and of a ring's sector; the disk behind each write.
-/
import Derived.Test.YtplppdbdfhkljaaGreatA13
import Derived.Great.BuildSlice
import Derived.Test.YtplppdbdfhkljaaGreatA12
set_option maxRecDepth 100000
set_option maxHeartbeats 16000000
section
set_option linter.unusedSimpArgs false
set_option linter.unusedVariables false
namespace Go.Proofs.YtplppdbdfhkljaaGreat
open Go.RowKit Go.MapKept Go.ChangeMaps
theorem over_mid(A B C x:List UInt8){a:Nat}(hA:A.length=a)(hB:x.length=B.length):over (A++(B++C)) a x=A++(x++C):=by
 subst hA
 unfold over
 rw[List.take_left' rfl,hB,← List.append_assoc A B C,List.drop_left' (by rw[List.length_append])]
theorem ringSec_bytes(t:Int)(b:Sec):ringSec t b=be 8 (2*t).toNat++b.drop 8:=by
 unfold ringSec put
 simp
def hcat(l:List Put):Nat→List UInt8
 | 0=>[]
 | k+1=>hcat l k++(be 4 ((l.getD k (0,[])).1.toNat)++(l.getD k (0,[])).2.take 8)
theorem hcat_length{homes:Nat}{l:List Put}(hg:PutsGood homes l):∀k,k≤l.length→(hcat l k).length=12*k
 | 0,_=>rfl
 | k+1,hk=>by
  have ih:=hcat_length hg k (by omega)
  have hp:=hg.each _ (List.getElem_mem (show k<l.length by omega))
  unfold hcat
  rw[List.length_append,List.length_append,ih,be_length,List.length_take,List.getD_eq_getElem?_getD,List.getElem?_eq_getElem (by omega),Option.getD_some,hp.2.2]
  omega
def hdB(t:Int)(n:Nat)(l:List Put)(k:Nat):List UInt8:=be 8 (2*t+1).toNat++(be 2 n++List.replicate 6 0)++hcat l k
theorem hdB_length{homes:Nat}{l:List Put}(hg:PutsGood homes l)(t:Int)(n k:Nat)(hk:k≤l.length):(hdB t n l k).length=16+12*k:=by
 unfold hdB
 rw[List.length_append,List.length_append,List.length_append,be_length,be_length,List.length_replicate,hcat_length hg k hk]
theorem hdrK_bytes{homes:Nat}{l:List Put}(hg:PutsGood homes l)(h40:l.length≤40)(t:Int):∀k,k≤l.length→hdrK t l k=hdB t l.length l k++(List.replicate (488-12*k) 0++be 8 (2*t+1).toNat)
 | 0,_=>by
  show hdr0 t l.length=_
  unfold hdr0 hdB hcat
  rw[tagged_bytes,List.append_nil]
  have e0:be 8 (2*t+1).toNat++(List.replicate 496 (0:UInt8)++be 8 (2*t+1).toNat)=be 8 (2*t+1).toNat++(List.replicate 2 0++(List.replicate 494 0++be 8 (2*t+1).toNat)):=by
   rw[rep_app 2 494 496 rfl,List.append_assoc]
  rw[e0,put_mid (be 8 (2*t+1).toNat) (List.replicate 2 0) _ (a:=8) (n:=2) l.length (be_length _ _) (List.length_replicate ..),rep_app 6 488 494 rfl]
  simp only[List.append_assoc,Nat.mul_zero,Nat.sub_zero]
 | k+1,hk=>by
  have ih:=hdrK_bytes hg h40 t k (by omega)
  have hkl:k<l.length:=by omega
  have hp:=hg.each _ (List.getElem_mem hkl)
  have hgd:l.getD k (0,[])=l[k]:=by rw[List.getD_eq_getElem?_getD,List.getElem?_eq_getElem hkl,Option.getD_some]
  have hlen:=hdB_length hg t l.length k (by omega)
  have hstep:hdrK t l (k+1)=hdrS (hdrK t l k) k l[k]:=by
   show hdrS (hdrK t l k) k (l.getD k (0,[]))=_
   rw[hgd]
  rw[hstep,ih]
  unfold hdrS
  have e1:List.replicate (488-12*k) (0:UInt8)=List.replicate 4 0++(List.replicate 8 0++List.replicate (488-12*(k+1)) 0):=by
   rw[← rep_app 8 (488-12*(k+1)) (484-12*k) (by omega),← rep_app 4 (484-12*k) (488-12*k) (by omega)]
  have e2:hdB t l.length l k++(List.replicate (488-12*k) 0++be 8 (2*t+1).toNat)=hdB t l.length l k++(List.replicate 4 0++(List.replicate 8 0++(List.replicate (488-12*(k+1)) 0++be 8 (2*t+1).toNat))):=by
   rw[e1];simp only[List.append_assoc]
  rw[e2,put_mid _ (List.replicate 4 0) _ (a:=16+12*k) (n:=4) _ hlen (List.length_replicate ..)]
  have e3:hdB t l.length l k++(be 4 l[k].1.toNat++(List.replicate 8 0++(List.replicate (488-12*(k+1)) 0++be 8 (2*t+1).toNat)))=(hdB t l.length l k++be 4 l[k].1.toNat)++(List.replicate 8 0++(List.replicate (488-12*(k+1)) 0++be 8 (2*t+1).toNat)):=by simp only[List.append_assoc]
  rw[e3,over_mid _ (List.replicate 8 0) _ _ (a:=20+12*k) (by rw[List.length_append,hlen,be_length];omega) (by rw[List.length_take,hp.2.2,List.length_replicate];rfl)]
  unfold hdB
  rw[show hcat l (k+1)=hcat l k++(be 4 (l[k].1.toNat)++l[k].2.take 8) by rw[hcat,hgd]]
  simp only[List.append_assoc]
theorem hdr_bytes{homes:Nat}{l:List Put}(hg:PutsGood homes l)(h40:l.length≤40)(t:Int):hdr t l=hdB t l.length l l.length++(List.replicate (488-12*l.length) 0++be 8 (2*t+1).toNat):=hdrK_bytes hg h40 t l.length (Nat.le_refl _)
def comF(J:Jn)(D:Dk)(l:List Put):Nat→Dk
 | 0=>(D.write ((J.at J.place:Nat):Int) zsec).1
 | k+1=>((comF J D l k).write ((J.at (J.place+1+k):Nat):Int) (ringSec J.turn (l.getD k (0,[])).2)).1
theorem comF_n(J:Jn)(D:Dk)(l:List Put):∀k,(comF J D l k).n=D.n
 | 0=>Dk.write_n _ _ _
 | k+1=>by unfold comF;rw[Dk.write_n];exact comF_n J D l k
theorem at_lt{J:Jn}{n:Nat}(hJ:J.Ok n)(p:Nat):J.at p<n:=by
 unfold Jn.at
 have:=Nat.mod_lt p (show 0<J.last.ring by have:=hJ.ring0;omega)
 have:=hJ.fits
 omega
theorem ringSec_len{t:Int}{b:Sec}(h:b.length=512):(ringSec t b).length=512:=by
 rw[ringSec_bytes,List.length_append,be_length,List.length_drop,h]
theorem zsec_len:zsec.length=512:=List.length_replicate ..
theorem getD_lenP{homes:Nat}{l:List Put}(hg:PutsGood homes l){k:Nat}(hk:k<l.length):(l.getD k (0,[])).2.length=512:=by
 rw[List.getD_eq_getElem?_getD,List.getElem?_eq_getElem hk,Option.getD_some]
 exact(hg.each _ (List.getElem_mem hk)).2.2
theorem comF_on{J:Jn}{D:Dk}{l:List Put}{homes:Nat}(h:D.On)(hJ:J.Ok D.n)(hg:PutsGood homes l):∀k,k≤l.length→(comF J D l k).On
 | 0,_=>(h.written (at_lt hJ _) zsec_len).1
 | k+1,hk=>((comF_on h hJ hg k (by omega)).written (by rw[comF_n];exact at_lt hJ _) (ringSec_len (getD_lenP hg (by omega)))).1
theorem comL_eq{J:Jn}{D:Dk}{l:List Put}{homes:Nat}(h:D.On)(hJ:J.Ok D.n)(hg:PutsGood homes l):∀(m k:Nat),m+k=l.length→comL J k (comF J D l k) (l.drop k)=(comF J D l l.length,0)
 | 0,k,hk=>by
  obtain rfl:k=l.length:=by omega
  rw[List.drop_of_length_le (Nat.le_refl _)];rfl
 | m+1,k,hk=>by
  have hkl:k<l.length:=by omega
  have hgd:l.getD k (0,[])=l[k]:=by rw[List.getD_eq_getElem?_getD,List.getElem?_eq_getElem hkl,Option.getD_some]
  rw[List.drop_eq_getElem_cons hkl,comL_cons]
  have hw:=(comF_on h hJ hg k (by omega)).written (i:=J.at (J.place+1+k)) (b:=ringSec J.turn l[k].2) (by rw[comF_n];exact at_lt hJ _) (ringSec_len (hg.each _ (List.getElem_mem hkl)).2.2)
  rw[if_neg (by rw[hw.2];decide)]
  have e:((comF J D l k).write ((J.at (J.place+1+k):Nat):Int) (ringSec J.turn l[k].2)).1=comF J D l (k+1):=by rw[comF,hgd]
  rw[e]
  exact comL_eq h hJ hg m (k+1) (by omega)
def comE(J:Jn)(D:Dk)(l:List Put):Dk:=(((comF J D l l.length).flush.1.write ((J.at J.place:Nat):Int) (hdr J.turn l)).1).flush.1
theorem hdr_len{homes:Nat}{l:List Put}(hg:PutsGood homes l)(h40:l.length≤40)(t:Int):(hdr t l).length=512:=by
 rw[hdr_bytes hg h40,List.length_append,List.length_append,hdB_length hg _ _ _ (Nat.le_refl _),List.length_replicate,be_length]
 omega
theorem putD_eq{J:Jn}{D:Dk}{l:List Put}{homes:Nat}(h:D.On)(hJ:J.Ok D.n)(hg:PutsGood homes l)(h40:l.length≤40) :
  J.putD D l=(comE J D l,0)∧(comF J D l l.length).On∧(comF J D l l.length).flush.1.On∧((comF J D l l.length).flush.1.write ((J.at J.place:Nat):Int) (hdr J.turn l)).2=0∧(comE J D l).n=D.n:=by
 have h0:=h.written (i:=J.at J.place) (b:=zsec) (at_lt hJ _) zsec_len
 have h1:=comL_eq h hJ hg l.length 0 (by omega)
 rw[List.drop_zero] at h1
 have h2:=comF_on h hJ hg l.length (Nat.le_refl _)
 have h3:=h2.flushed
 have h4:=h3.1.written (i:=J.at J.place) (b:=hdr J.turn l) (by rw[Dk.flush_n,comF_n];exact at_lt hJ _) (hdr_len hg h40 _)
 have h5:=h4.1.flushed
 refine⟨?_,h2,h3.1,h4.2,?_⟩
 ·unfold Jn.putD
  show(if(D.write ((J.at J.place:Nat):Int) zsec).2≠0 then _ else _)=_
  rw[if_neg (by rw[h0.2];decide)]
  have h1':comL J 0 (D.write ((J.at J.place:Nat):Int) zsec).1 l=(comF J D l l.length,0):=h1
  show(if(comL J 0 (D.write ((J.at J.place:Nat):Int) zsec).1 l).2≠0 then _ else _)=_
  rw[h1',if_neg (show ¬((comF J D l l.length,(0:Int)).2≠0) by simp)]
  show(if(comF J D l l.length).flush.2≠0 then _ else _)=_
  rw[if_neg (by rw[h3.2];decide)]
  show(if((comF J D l l.length).flush.1.write ((J.at J.place:Nat):Int) (hdr J.turn l)).2≠0 then _ else _)=_
  rw[if_neg (by rw[h4.2];decide)]
  exact Prod.ext rfl h5.2
 ·unfold comE
  rw[Dk.flush_n,Dk.write_n,Dk.flush_n,comF_n]
def notedM(J:Jn)(l:List Put)(m:Nat):Jn:={ J with away:=awayL J.away (l.take m) }
theorem awayL_snocP(aw:Nat→Option Sec)(l:List Put)(p:Put):awayL aw (l ++ [p])=fun i=>if i=p.1.toNat then some p.2 else awayL aw l i:=by
 unfold awayL
 rw[List.foldl_append];rfl
theorem notedM_succ{J:Jn}{l:List Put}{m:Nat}{p:Put}(hp:l[m]?=some p):(notedM J l (m+1)).away=fun i=>if i=p.1.toNat then some p.2 else(notedM J l m).away i:=by
 show awayL J.away (l.take (m+1))=_
 rw[List.take_add_one,hp,Option.toList_some,awayL_snocP];rfl
theorem notedM_ok{J:Jn}{n:Nat}{l:List Put}(hJ:J.Ok n)(hg:PutsGood (J.homes n) l):∀m,m≤l.length→(notedM J l m).Ok n
 | 0,_=>by
  have:notedM J l 0=J:=by unfold notedM;rw[List.take_zero];rfl
  rw[this];exact hJ
 | m+1,hm=>by
  have ih:=notedM_ok hJ hg m (by omega)
  obtain⟨p,hp⟩:∃p,l[m]?=some p:=⟨_,List.getElem?_eq_getElem (by omega)⟩
  obtain⟨h1,h2,h3⟩:=hg.each p (List.mem_of_getElem? hp)
  refine⟨hJ.ring0,hJ.ring1,hJ.fits,hJ.lplace,hJ.place,hJ.num0,hJ.num1,hJ.lturn0,hJ.turn0,hJ.turn1,hJ.used,fun i s e=>?_⟩
  rw[notedM_succ hp] at e
  replace e:(if i=p.1.toNat then some p.2 else(notedM J l m).away i)=some s:=e
  split at e
  ·next q=>
   cases e
   have hf:=hJ.fits
   refine⟨?_,h3⟩
   show i+2+J.last.ring<n
   unfold Jn.homes at h2
   omega
  ·exact ih.away i s e
theorem awayB_put{aw aw':Nat→Option Sec}{h k:Nat}{s:Sec}(hk:k<h)(he:aw'=fun i=>if i=k then some s else aw i):(awayB aw h).set k (.bool true)=awayB aw' h:=by
 subst he
 refine List.ext_getElem? fun i=>?_
 rw[List.getElem?_set]
 by_cases hi:i<h
 ·by_cases e:k=i
  ·subst e
   rw[if_pos rfl,if_pos (by rw[awayB_length];exact hk),awayB_get hi,if_pos rfl];rfl
  ·rw[if_neg e,awayB_get hi,awayB_get hi,if_neg (fun q=>e q.symm)]
 ·have e1:(awayB aw h)[i]?=none:=List.getElem?_eq_none (by rw[awayB_length];omega)
  have e2:(awayB (fun i=>if i=k then some s else aw i) h)[i]?=none:=List.getElem?_eq_none (by rw[awayB_length];omega)
  rw[e1,e2]
  split
  ·next e=>rw[if_neg (by rw[awayB_length];omega)]
  ·rfl
theorem NowL.put{aw aw':Nat→Option Sec}{h k:Nat}{s:Sec}{l:List Value}(hl:NowL aw h l)(hk:k<h)(he:aw'=fun i=>if i=k then some s else aw i):NowL aw' h (l.set k (strV s)):=by
 subst he
 refine⟨by rw[List.length_set];exact hl.len,fun i hi=>?_,fun i x hi e=>?_⟩
 ·rw[List.getElem?_set]
  by_cases e:k=i
  ·subst e;rw[if_pos rfl,if_pos (by rw[hl.len];exact hk)];exact⟨_,rfl⟩
  ·rw[if_neg e];exact hl.str i hi
 ·rw[List.getElem?_set]
  replace e:(if i=k then some s else aw i)=some x:=e
  by_cases q:k=i
  ·subst q
   rw[if_pos rfl] at e
   cases e
   rw[if_pos rfl,if_pos (by rw[hl.len];exact hk)]
  ·rw[if_neg (fun z=>q z.symm)] at e
   rw[if_neg q];exact hl.away i x hi e
theorem RjmAt.put1{w:World}{q:QG}{J:Jn}{D:Dk}{l:List Put}{m:Nat}{p:Put}(h:RjmAt w q (notedM J l m) D)(hJ:J.Ok D.n)(hg:PutsGood (J.homes D.n) l)(hp:l[m]?=some p)(hm:m<l.length) :
  RjmAt ((w.setCell ⟨q.nb,p.1.toNat,none⟩ (strV p.2)).setCell ⟨q.ab,p.1.toNat,none⟩ (.bool true)) q (notedM J l (m+1)) D∧Upd q.own w ((w.setCell ⟨q.nb,p.1.toNat,none⟩ (strV p.2)).setCell ⟨q.ab,p.1.toNat,none⟩ (.bool true)):=by
 obtain⟨h1,h2,h3⟩:=hg.each p (List.mem_of_getElem? hp)
 have hk:p.1.toNat<J.homes D.n:=by omega
 have he:=notedM_succ (J:=J) hp
 obtain⟨nl,hn1,hn2⟩:=h.now
 have hap:=h.apart
 have hnab:q.nb≠q.ab:=by
  intro e
  obtain⟨r1,hl⟩:=hn1
  obtain⟨r,hr⟩:=h.away
  rw[e,hr] at hl;simp at hl
 have hnj:q.nb≠q.jb:=by
  intro e
  obtain⟨r1,hl⟩:=hn1
  have:=h.st
  rw[← e,hl] at this;simp at this
 have haj:q.ab≠q.jb:=by
  intro e
  obtain⟨r,hr⟩:=h.away
  have:=h.st
  rw[← e,hr] at this;simp at this
 have u1:Upd [q.nb] w (w.setCell ⟨q.nb,p.1.toNat,none⟩ (strV p.2)):=(Upd.refl _ _).set _ (.inl (by simp))
 have u2:Upd [q.ab] (w.setCell ⟨q.nb,p.1.toNat,none⟩ (strV p.2)) ((w.setCell ⟨q.nb,p.1.toNat,none⟩ (strV p.2)).setCell ⟨q.ab,p.1.toNat,none⟩ (.bool true)):=(Upd.refl _ _).set _ (.inl (by simp))
 refine⟨⟨?_,?_,?_,⟨nl.set p.1.toNat (strV p.2),?_,?_⟩,notedM_ok hJ hg (m+1) hm,h.ne⟩,(u1.mono (by simp[QG.own])).trans (u2.mono (by simp[QG.own]))⟩
 ·exact(h.disk.upd u1 (fun x hx=>by simp;rintro rfl;exact hap _ (by simp[QG.own]) hx)).upd u2 (fun x hx=>by simp;rintro rfl;exact hap _ (by simp[QG.own]) hx)
 ·have:=(u2.block _ (by have:=blk_lt h.st;have:=u1.size;omega) (by simp;exact fun e=>haj e.symm)).trans ((u1.block _ (blk_lt h.st) (by simp;exact fun e=>hnj e.symm)).trans h.st)
  exact this
 ·have:=(h.away.upd u1 (by simp;exact fun e=>hnab e.symm)).set (i:=p.1.toNat) (by rw[awayB_length];exact hk) (.bool true)
  rw[← awayB_put (aw:=(notedM J l m).away) (h:=(notedM J l (m+1)).homes D.n) (s:=p.2) hk he]
  exact this
 ·exact(hn1.set (by rw[hn2.len];exact hk) (strV p.2)).upd u2 (by simp;exact hnab)
 ·exact hn2.put hk he
theorem notedM_all(J:Jn)(l:List Put):(notedM J l l.length).away=(J.note l).away:=by
 show awayL J.away (l.take l.length)=awayL J.away l
 rw[List.take_length]
theorem ck_sameP{J J1:Jn}{D D1:Dk}{l:List Put}(h:D.On)(hok:D.Ok)(hJ:J.Ok D.n)(h1:J1=if J.tight l then J.ck D else J)(h2:D1=if J.tight l then(J.ckD D).1 else D):J1.turn=J.turn∧J1.place=J.place∧J1.last.ring=J.last.ring∧D1.n=D.n:=by
 by_cases ht:J.tight l
 ·rw[if_pos ht] at h1 h2
  unfold Jn.ck at h1
  unfold Jn.ckD at h2
  by_cases a1:J.may D≠0
  ·rw[if_pos a1] at h1 h2;subst h1 h2;exact⟨rfl,rfl,rfl,rfl⟩
  ·rw[if_neg a1] at h1 h2
   by_cases a2:J.keys D.n=[]
   ·rw[if_pos a2] at h1 h2;subst h1 h2;exact⟨rfl,rfl,rfl,rfl⟩
   ·rw[if_neg a2] at h1 h2
    by_cases a3:4611686018427387904≤J.last.number
    ·rw[if_pos a3] at h1 h2;subst h1 h2;exact⟨rfl,rfl,rfl,rfl⟩
    ·rw[if_neg a3] at h1 h2
     have hs:=settleD_eq h hok hJ
     rw[settle_eq h hok hJ] at h1
     rw[hs.1] at h2
     subst h1 h2
     exact⟨rfl,rfl,rfl,hs.2.2.2.2.2⟩
 ·rw[if_neg ht] at h1 h2;subst h1 h2;exact⟨rfl,rfl,rfl,rfl⟩
theorem com_one{J J1:Jn}{D D1:Dk}{l:List Put}{E:Dk}(hm:¬(J.may D≠0))(hf:¬(J.fits D.n l≠0))(hl:l≠[])(ht:J.turn<4611686018427387000)(hz:(J.ckD D).2=0)(h1:J1=if J.tight l then J.ck D else J)(h2:D1=if J.tight l then(J.ckD D).1 else D)(hp:J1.putD D1 l=(E,0)) :
  J.comD D l=(E,0)∧J.com D l=J1.note l:=by
 have hput:J1.put D1 l=J1.note l:=by unfold Jn.put;rw[hp,if_neg (show ¬((E,(0:Int)).2≠0) by simp)]
 have ht':¬(4611686018427387903≤J.turn):=by omega
 unfold Jn.comD Jn.com
 rw[if_neg hm,if_neg hm,if_neg hf,if_neg hf,if_neg hl,if_neg hl,if_neg ht',if_neg ht']
 by_cases e:J.tight l
 ·rw[if_pos e] at h1 h2
  rw[if_pos e,if_pos e,if_neg (by rw[hz];decide),if_neg (by rw[hz];decide),← h1,← h2]
  exact⟨hp,hput⟩
 ·rw[if_neg e] at h1 h2
  rw[if_neg e,if_neg e,← h1,← h2]
  exact⟨hp,hput⟩
theorem used_fit{J J1:Jn}{D D1:Dk}{l:List Put}(h:D.On)(hok:D.Ok)(hJ:J.Ok D.n)(hm:¬(J.may D≠0))(hn:J.last.number<4611686018427387904)(hu:J.used=0↔J.keys D.n=[])(hl:l.length<J.last.ring)(h1:J1=if J.tight l then J.ck D else J)(h2:D1=if J.tight l then(J.ckD D).1 else D):J1.used+(1+l.length)≤J1.last.ring:=by
 have hs:=ck_sameP h hok hJ h1 h2
 by_cases e:J.tight l
 ·rw[if_pos e] at h1
  unfold Jn.ck at h1
  rw[if_neg hm] at h1
  by_cases e2:J.keys D.n=[]
  ·have:=hu.2 e2
   unfold Jn.tight at e
   omega
  ·rw[if_neg e2,if_neg (by omega),settle_eq h hok hJ] at h1
   subst h1
   show 0+(1+l.length)≤J.last.ring
   omega
 ·rw[if_neg e] at h1
  subst h1
  unfold Jn.tight at e
  omega
theorem RjmAt.noted{w:World}{q:QG}{J:Jn}{D:Dk}{l:List Put}(h:RjmAt w q (notedM J l l.length) D)(hJ:J.Ok D.n)(hg:PutsGood (J.homes D.n) l)(hu:J.used+(1+l.length)≤J.last.ring)(ht:J.turn<4611686018427387000) :
  RjmAt (((w.setCell ⟨q.jb,4,none⟩ (.int .i64 (((J.place+1+l.length) % J.last.ring:Nat):Int))).setCell ⟨q.jb,3,none⟩ (.int .u64 (J.turn+1))).setCell ⟨q.jb,8,none⟩ (.int .i64 ((J.used+(1+l.length):Nat):Int))) q (J.note l) D∧
   Upd q.own w (((w.setCell ⟨q.jb,4,none⟩ (.int .i64 (((J.place+1+l.length) % J.last.ring:Nat):Int))).setCell ⟨q.jb,3,none⟩ (.int .u64 (J.turn+1))).setCell ⟨q.jb,8,none⟩ (.int .i64 ((J.used+(1+l.length):Nat):Int))):=by
 have hap:=h.apart
 obtain⟨nl,hn1,hn2⟩:=h.now
 have hnj:q.nb≠q.jb:=by
  intro e
  obtain⟨r1,hl⟩:=hn1
  have:=h.st
  rw[← e,hl] at this;simp at this
 have haj:q.ab≠q.jb:=by
  intro e
  obtain⟨r,hr⟩:=h.away
  have:=h.st
  rw[← e,hr] at this;simp at this
 have u:Upd [q.jb] w (((w.setCell ⟨q.jb,4,none⟩ (.int .i64 (((J.place+1+l.length) % J.last.ring:Nat):Int))).setCell ⟨q.jb,3,none⟩ (.int .u64 (J.turn+1))).setCell ⟨q.jb,8,none⟩ (.int .i64 ((J.used+(1+l.length):Nat):Int))):=(((Upd.refl _ _).set _ (.inl (by simp))).set _ (.inl (by simp))).set _ (.inl (by simp))
 have hok:=notedM_ok hJ hg l.length (Nat.le_refl _)
 refine⟨⟨h.disk.upd u (fun x hx=>by simp;rintro rfl;exact hap _ (by simp[QG.own]) hx),?_,?_,⟨nl,hn1.upd u (by simp;exact hnj),?_⟩,?_,h.ne⟩,u.mono (by simp[QG.own])⟩
 ·have:=blk_set (blk_set (blk_set h.st 4 (.int .i64 (((J.place+1+l.length) % J.last.ring:Nat):Int))) 3 (.int .u64 (J.turn+1))) 8 (.int .i64 ((J.used+(1+l.length):Nat):Int))
  exact this
 ·have:=h.away.upd u (by simp;exact haj)
  rw[notedM_all] at this
  exact this
 ·rw[notedM_all] at hn2
  exact hn2
 ·have hr:=hJ.ring0
  have hr1:=hJ.ring1
  refine⟨hJ.ring0,hJ.ring1,hJ.fits,hJ.lplace,Nat.mod_lt _ (by omega),hJ.num0,hJ.num1,hJ.lturn0,?_,?_,?_,?_⟩
  ·have:=hJ.turn0;show 1≤J.turn+1;omega
  ·show J.turn+1<4611686018427389000;omega
  ·show J.used+(1+l.length)≤100000000;omega
  ·intro i s e
   rw[← notedM_all] at e
   exact hok.away i s e
theorem take8_be{b:List UInt8}{x:Nat}(hb:8≤b.length)(hx:x<18446744073709551616):b.take 8=be 8 x↔num b 0 8=x:=by
 have hm:x % 256 ^ 8=x:=Nat.mod_eq_of_lt hx
 unfold num
 rw[List.drop_zero]
 constructor
 ·intro e;rw[e,beN_be,hm]
 ·intro e
  refine beN_inj (n:=8) (by rw[List.length_take];omega) (be_length _ _) ?_
  rw[e,beN_be,hm]
theorem drop504_be{b:List UInt8}{x:Nat}(hb:b.length=512)(hx:x<18446744073709551616):b.drop 504=be 8 x↔num b 504 8=x:=by
 have hm:x % 256 ^ 8=x:=Nat.mod_eq_of_lt hx
 have e:(b.drop 504).take 8=b.drop 504:=List.take_of_length_le (by rw[List.length_drop];omega)
 unfold num
 rw[e]
 constructor
 ·intro e;rw[e,beN_be,hm]
 ·intro e
  refine beN_inj (n:=8) (by rw[List.length_drop];omega) (be_length _ _) ?_
  rw[e,beN_be,hm]
theorem Jn.stHead_iff{J:Jn}{D:Dk}(hl:(J.hd D).length=512)(h0:0≤J.turn)(h1:J.turn≤9223372036854775000):J.stHead D↔(J.hd D).take 8=be 8 (2*J.turn+1).toNat∧(J.hd D).drop 504=be 8 (2*J.turn+1).toNat∧1≤J.stN D∧J.stN D≤40∧J.stN D<J.last.ring:=by
 rw[take8_be (by omega) (by omega),drop504_be hl (by omega)]
 unfold Jn.stHead tagOf numI
 constructor
 ·rintro⟨a,b⟩
  split at a
  ·exact⟨by omega,by omega,b⟩
  ·omega
 ·rintro⟨a,b,c⟩
  refine⟨?_,c⟩
  rw[if_pos (by omega)]
  omega
theorem mem_seenK{J:Jn}{D:Dk}{n k:Nat}(hk:k≤n)(x:Int):x∈seenK (J.stL D n) k↔∃m,m<k∧numI (J.hd D) (16+12*m) 4=x:=by
 unfold seenK
 rw[Jn.stL_take J D hk]
 simp[Jn.stL,Jn.stPut]
theorem Jn.stGood_iff{J:Jn}{D:Dk}{k:Nat}(hk:k<J.stN D)(hl:(J.bd D k).length=512)(h0:0≤J.turn)(h1:J.turn≤9223372036854775000):J.stGood D k↔(J.bd D k).take 8=be 8 (2*J.turn).toNat∧numI (J.hd D) (16+12*k) 4<(J.homes D.n:Int)∧∀m,m<k→numI (J.hd D) (16+12*m) 4≠numI (J.hd D) (16+12*k) 4:=by
 rw[take8_be (by omega) (by omega)]
 unfold Jn.stGood
 rw[mem_seenK (by omega)]
 constructor
 ·rintro⟨a,b,c⟩
  exact⟨by unfold numI at a;omega,b,fun m hm e=>c ⟨m,hm,e⟩⟩
 ·rintro⟨a,b,c⟩
  exact⟨by unfold numI;omega,b,fun⟨m,hm,e⟩=>c m hm e⟩
theorem st_data{b x:List UInt8}(hb:b.length=512)(hx:x.length=8):over b 0 x=x++b.drop 8:=by
 unfold over
 rw[List.take_zero,List.nil_append,hx]
theorem Dk.On.read{D:Dk}(h:D.On){i:Nat}(hi:i<D.n):D.read (i:Int)=(D.now i,0):=by
 have hm:D.may (i:Int)=0:=Dk.may_of h.1 (by omega) (by omega)
 unfold Dk.read
 rw[hm,if_pos rfl];rfl
theorem str_cmp{a b:List UInt8}{c:Bool}(h:c=decide (a=b)):((str a).toList == (str b).toList)=c:=by
 rw[str_toList,str_toList,h]
 by_cases e:a=b
 ·simp[e]
 ·simp[e]
theorem str_extract(b:List UInt8)(i j:Nat):(str b).extract i j=str ((b.drop i).take (j-i)):=by
 have e:((str b).extract i j).data=(str ((b.drop i).take (j-i))).data:=by
  rw[ByteArray.data_extract]
  show b.toArray.extract i j=((b.drop i).take (j-i)).toArray
  rw[List.extract_toArray]
 exact ByteArray.ext e
theorem run_str_front(b:List UInt8)(j:Nat)(hj:j≤b.length)(w:World):(Instr.slice 9 (.string (str b)) none (some (.int .i64 (j:Int))) none).run Tryz.prog w=.ok (.string (str (b.take j))) w:=by
 rw[run_slice_string_h (P:=Tryz.prog) w 9 (str b) Tryz.underlying9 .i64 (j:Int) (by omega) (by rw[str_size];omega),str_extract]
 simp
theorem run_str_back(b:List UInt8)(i:Nat)(hi:i≤b.length)(w:World):(Instr.slice 9 (.string (str b)) (some (.int .i64 (i:Int))) none none).run Tryz.prog w=.ok (.string (str (b.drop i))) w:=by
 rw[run_slice_string_l (P:=Tryz.prog) w 9 (str b) Tryz.underlying9 .i64 (i:Int) (by omega) (by rw[str_size];omega),str_extract]
 rw[str_size,List.take_of_length_le (by rw[List.length_drop];omega)]
 rfl
theorem run_str_mid(b:List UInt8)(i j:Nat)(hij:i≤j)(hj:j≤b.length)(w:World):(Instr.slice 9 (.string (str b)) (some (.int .i64 (i:Int))) (some (.int .i64 (j:Int))) none).run Tryz.prog w=.ok (.string (str ((b.drop i).take (j-i)))) w:=by
 rw[run_slice_string (P:=Tryz.prog) w 9 (str b) .i64 .i64 (i:Int) (j:Int) Tryz.underlying9 (by omega) (by omega) (by rw[str_size];omega)]
 rw[show((i:Int)).toNat=i by omega,show((j:Int)).toNat=j by omega,str_extract]
theorem run_str_bytes(b:List UInt8)(w:World):∃C Z fr,b.length≤C∧(convert 9 34 (.string (str b))).run Tryz.prog w=.ok (.slice (some ⟨w.heap.size,0,none⟩) b.length C) (w.drew.alloc (.cells Z 5 fr))∧Rd (w.drew.alloc (.cells Z 5 fr)) (.slice (some ⟨w.heap.size,0,none⟩) b.length C) b:=by
 have hcv:=run_bytes_of_string (P:=Tryz.prog) w 9 34 5 (str b) Tryz.underlying9 Tryz.underlying34 Tryz.underlying5
 obtain⟨C,hC⟩:∃C,C=grownCap w (str b).size 0 5:=⟨_,rfl⟩
 have hCs:(str b).size≤C:=by rw[hC];exact grownCap_ge _ _ _ _
 rw[← hC] at hcv
 obtain⟨Z,hZ⟩:∃Z,Z=bytesRow (str b) C:=⟨_,rfl⟩
 rw[← hZ] at hcv
 rw[str_size] at hcv
 rw[str_size] at hCs
 refine⟨C,Z,_,hCs,hcv,_,_,rfl,hCs,fun _=>⟨_,_,rfl,fun i hi=>?_⟩⟩
 have hbk:(w.drew.alloc (.cells Z 5 (Z.size,Z.size+1))).heap[w.heap.size]?=some (.cells Z 5 (Z.size,Z.size+1)):=blk_alloc (w:=w.drew) _
 rw[Nat.zero_add,blk_cell hbk,hZ,bytesRow_at _ _ _ (by show i<b.toArray.size;simpa using hi)]
 unfold bv
 show some (Value.int .u8 ((b.toArray[i]'_).toNat:Int))=_
 simp
def OwnT(w:World)(B:Nat)(v:Value)(s:List UInt8):Prop:=∃b off n c C fr,v=.slice (some ⟨b,off,none⟩) n c∧B≤b∧w.heap[b]?=some (.cells C 5 fr)∧Rd w v s
theorem OwnT.world{w w':World}{B:Nat}{v:Value}{s:List UInt8}(h:OwnT w B v s)(hk:∀k C fr,B≤k→w.heap[k]?=some (.cells C 5 fr)→w'.heap[k]?=w.heap[k]?):OwnT w' B v s:=by
 obtain⟨b,off,n,c,C,fr,rfl,hb,hc,ao,cap,e,hcap,hh⟩:=h
 have hc':=(hk b C fr hb hc).trans hc
 refine⟨b,off,n,c,C,fr,rfl,hb,hc',ao,cap,e,hcap,fun hl=>?_⟩
 obtain⟨bb,o2,ea,hcell⟩:=hh hl
 refine⟨bb,o2,ea,fun i hi=>?_⟩
 have hbb:bb=b:=by
  injection e with e1 _ _
  rw[ea] at e1
  injection e1 with e2
  injection e2 with e3 _ _
  exact e3.symm
 subst hbb
 have:=hcell i hi
 rw[blk_cell hc] at this
 rw[blk_cell hc']
 exact this
def PutsT(w:World)(B:Nat)(v:Value)(l:List Put):Prop:=
 ∃ps:List (Int × Value),w.ownsRow B 110 2 v ps.length (putCells ps)∧ps.length=l.length∧∀(k:Nat) (p:Int × Value),ps[k]?=some p→∃q:Put,l[k]?=some q∧p.1=q.1∧OwnT w B p.2 q.2
theorem PutsT.nil(w:World)(B:Nat):PutsT w B (.slice none 0 0) []:=⟨[],⟨by simp,.inl ⟨rfl,rfl⟩⟩,rfl,by simp⟩
theorem PutsT.at_{w:World}{B:Nat}{v:Value}{l:List Put}(h:PutsT w B v l):PutsAt w v l:=by
 obtain⟨ps,h1,h2,h3⟩:=h
 refine⟨ps,⟨h1.1,h1.2.imp id ?_⟩,h2,fun k p hp=>?_⟩
 ·rintro⟨g,cap,cur,e1,_,e3⟩
  exact⟨g,cap,cur,e1,Nat.zero_le _,e3⟩
 ·obtain⟨q,a,b,_,_,_,_,_,_,_,_,_,c⟩:=h3 k p hp
  exact⟨q,a,b,c⟩
theorem PutsT.upd{w w':World}{B:Nat}{v:Value}{l:List Put}(h:PutsT w B v l){S:List Nat}(hu:Upd S w w')(hS:∀k,k∈S→k<B):PutsT w' B v l:=by
 obtain⟨ps,h1,h2,h3⟩:=h
 refine⟨ps,⟨h1.1,h1.2.imp id ?_⟩,h2,fun k p hp=>?_⟩
 ·rintro⟨g,cap,cur,e1,e2,e3,e4⟩
  exact⟨g,cap,cur,e1,e2,(hu.block _ (blk_lt e3) (fun q=>by have:=hS g q;omega)).trans e3,e4⟩
 ·obtain⟨q,a,b,c⟩:=h3 k p hp
  exact⟨q,a,b,c.world fun k C fr hk hc=>hu.block _ (blk_lt hc) (fun x=>by have:=hS k x;omega)⟩
theorem PutsT.below{w w':World}{B:Nat}{v:Value}{l:List Put}(h:PutsT w B v l)(hu:Upd [] w w'):PutsT w' B v l:=h.upd hu (by simp)
theorem PutsT.append{w:World}{B:Nat}{v:Value}{l:List Put}(hp:PutsT w B v l)(hl:l.length≤100000)(hB:B≤w.heap.size)(nb:Nat)(i:Int)(d:Value)(s:List UInt8)(hnb:w.heap[nb]?=some (.cells #[.int .i64 i,d] 110 (0,0)))(hd:OwnT w B d s) :
  ∃v' w',(∀ty,(Builtin.append_ #[103,103] ty #[v,.slice (some ⟨nb,0,none⟩) 1 1]).run Tryz.prog w=.ok v' w')∧PutsT w' B v' (l ++ [(i,s)])∧(∀k,k<B→k<w.heap.size→w'.heap[k]?=w.heap[k]?)∧w.grownBy w' v.ownBlock:=by
 obtain⟨ps,g1,g2,g3⟩:=hp
 obtain⟨i0,hi,hz0,hz1,hz2⟩:=info_parts infoPut
 have hone:d.oneCell'=true:=by obtain⟨_,_,_,_,_,_,rfl,_⟩:=hd;rfl
 obtain⟨v',w',hrun,hown,hg,_⟩:=run_append_own (P:=Tryz.prog) w B 103 0 110 i0 _ 2 32 Tryz.underlying103 hi hz0 hz1 hz2 rfl (by decide) v ps.length (putCells ps) g1 ⟨nb,0,none⟩ 1 1 [.int .i64 i,d] rfl
  (fun j u hj=>by
   rw[addr_add,blk_cell hnb]
   match j,hj with
   | 0,hj=>simpa using hj
   | 1,hj=>simpa using hj
   | j+2,hj=>simp at hj)
  (fun u hu=>by simp at hu;rcases hu with rfl | rfl;rfl;exact hone) (by unfold maxLen;omega) (by omega) hB
 have hlow:∀k,k<B→k<w.heap.size→w'.heap[k]?=w.heap[k]?:=by
  intro k hkB hk
  refine hg.block k hk fun e=>?_
  rcases g1.2 with⟨rfl,_⟩ | ⟨g,cap,cur,rfl,hb,hgb,_⟩
  ·simp[Value.ownBlock] at e
  ·simp[Value.ownBlock] at e;subst e;omega
 have hk2:∀(k:Nat) (c:Array Value) (fr:Nat × Nat),B≤k→w.heap[k]?=some (.cells c 5 fr)→w'.heap[k]?=w.heap[k]?:=by
  intro k c fr _ hk
  refine hg.block k (blk_lt hk) fun e=>?_
  rcases g1.2 with⟨rfl,_⟩ | ⟨g,cap,cur,rfl,_,hgb,_⟩
  ·simp[Value.ownBlock] at e
  ·simp[Value.ownBlock] at e;subst e;rw[hgb] at hk;simp at hk
 refine⟨v',w',fun _=>hrun,⟨ps ++ [(i,d)],?_,by simp[g2],?_⟩,hlow,hg⟩
 ·rw[putCells_append,List.length_append];exact hown
 ·intro k p hk
  rw[List.getElem?_append] at hk
  split at hk
  ·rename_i hlt
   obtain⟨q,a,b,c⟩:=g3 k p hk
   exact⟨q,by rw[List.getElem?_append_left (by omega)];exact a,b,c.world hk2⟩
  ·rename_i hge
   have hk0:k-ps.length=0:=by
    have:=(List.getElem?_eq_some_iff.1 hk).1
    simp at this;omega
   rw[hk0] at hk
   simp at hk
   subst hk
   exact⟨(i,s),by rw[List.getElem?_append_right (by omega),← g2,hk0];rfl,rfl,hd.world hk2⟩
theorem run_build1Q{T e:TypeId}{sz:Nat}(hu:Tryz.prog.underlying T=some (.slice e))(hi:((Tryz.prog.info? e).map fun i=>(i.zero.isSome,i.size))=some (true,sz))(h0:0<sz)(h1:sz≤1000)(cs:List Value)(hc:cs.length=sz)(w:World) :
  (Instr.buildSlice T 1 #[(0,.agg cs.toArray)]).run Tryz.prog w=.ok (.slice (some ⟨w.heap.size,0,none⟩) 1 1) (w.alloc (.cells cs.toArray e)):=by
 cases hq:Tryz.prog.info? e with
 | none=>rw[hq] at hi;simp at hi
 | some i=>
  rw[hq] at hi
  simp at hi
  obtain⟨hz,hs⟩:=hi
  obtain⟨z,hz⟩:=Option.isSome_iff_exists.1 hz
  have hd:=Great.fill_dense (s:=sz) h0 [.agg cs.toArray] 0 ((Array.range (1*i.size)).map (z.cells[· % z.cells.size]!)) (fun v hv=>by simp at hv;subst hv;simp[Value.cells,hc]) (by simp[hs])
  obtain⟨r,hr,hrs,hrk⟩:=hd
  have he:r=cs.toArray:=by
   apply Array.ext_getElem?
   intro k
   rw[hrk k]
   by_cases hk:k<sz
   ·rw[if_pos ⟨by omega,by simpa using hk⟩,Nat.div_eq_of_lt hk,Nat.mod_eq_of_lt hk]
    simp[Value.cells]
   ·rw[if_neg (by simp;omega),Array.getElem?_eq_none (by simp[hs];omega),Array.getElem?_eq_none (by simp;omega)]
  rw[he] at hr
  refine run_buildSlice w T e 1 _ cs.toArray i z hu hq hz (by omega) (by omega) ?_
  rw[hs]
  rw[hs] at hr
  exact hr
theorem build_P(i:Int)(d:Value)(hd:d.oneCell'=true)(w:World):(Instr.build 110 #[(0,.int .i64 i),(1,d)]).run Tryz.prog w=.ok (.agg #[.int .i64 i,d]) w:=by
 cases d<;>first | (simp[Value.oneCell'] at hd;done) | exact run_build w _ _ _ (by kernel_rfl)
theorem slice_P(i:Int)(d:Value)(hd:d.oneCell'=true)(w:World):(Instr.buildSlice 103 1 #[(0,.agg #[.int .i64 i,d])]).run Tryz.prog w=.ok (.slice (some ⟨w.heap.size,0,none⟩) 1 1) (w.alloc (.cells #[.int .i64 i,d] 110)):=
 run_build1Q (e:=110) (sz:=2) Tryz.underlying103 (by kernel_rfl) (by decide) (by decide) [.int .i64 i,d] rfl w
theorem PutsT.own{w:World}{B:Nat}{v:Value}{l:List Put}(h:PutsT w B v l):∀k,v.ownBlock=some k→B≤k:=by
 obtain⟨ps,g1,_,_⟩:=h
 intro k hk
 rcases g1.2 with⟨rfl,_⟩ | ⟨g,cap,cur,rfl,hb,_⟩
 ·simp[Value.ownBlock] at hk
 ·simp[Value.ownBlock] at hk;omega
theorem PutsT.push{a w:World}{v:Value}{l:List Put}(hu:Upd [] a w)(hp:PutsT w a.heap.size v l)(hl:l.length≤100000)(nb:Nat)(i:Int)(d:Value)(s:List UInt8)(hnb:w.heap[nb]?=some (.cells #[.int .i64 i,d] 110 (0,0)))(hd:OwnT w a.heap.size d s) :
  ∃v' w',(∀ty,(Builtin.append_ #[103,103] ty #[v,.slice (some ⟨nb,0,none⟩) 1 1]).run Tryz.prog w=.ok v' w')∧PutsT w' a.heap.size v' (l ++ [(i,s)])∧Upd [] a w':=by
 obtain⟨v',w',h1,h2,_,h4⟩:=hp.append hl hu.size nb i d s hnb hd
 exact⟨v',w',h1,h2,hu.grown h4 (fun k hk=> .inr (hp.own k hk))⟩
theorem str_bytesT(b:List UInt8)(w:World):∃C w',(convert 9 34 (.string (str b))).run Tryz.prog w=.ok (.slice (some ⟨w.heap.size,0,none⟩) b.length C) w'∧Upd [] w w'∧∀B,B≤w.heap.size→OwnT w' B (.slice (some ⟨w.heap.size,0,none⟩) b.length C) b:=by
 obtain⟨C,Z,fr,h1,h2,h3⟩:=run_str_bytes b w
 exact⟨C,_,h2,(Upd.refl _ _).drew.alloc _,fun B hB=>⟨_,_,_,_,Z,fr,rfl,hB,blk_alloc (w:=w.drew) _,h3⟩⟩
theorem OwnT.below{w w':World}{B:Nat}{v:Value}{s:List UInt8}(h:OwnT w B v s)(hu:Upd [] w w'):OwnT w' B v s:=h.world fun k C fr _ hk=>hu.block _ (blk_lt hk) (by simp)
end Go.Proofs.YtplppdbdfhkljaaGreat
end
section
namespace Go.Proofs.YtplppdbdfhkljaaGreat
open Go.RowKit Go.MapKept Go.ChangeMaps
section
section
variable {P:Program} {ops:Array Oper} {Q:Exit→Act→World→Prop} {md:Region.Mode} {S:World→Prop} {St:List Nat}
theorem wpAnyX_firstN{i:Nat}{oi:Oper}{v:Value}(hi:ops[i]?=some oi)(hsel:∀(j:Nat) (o:Oper) cs b,ops[j]?=some o→o.op≠.select cs b)
  (hQ:∀c a w,Q (.panic c) (a.put oi.dst v) w→Q (.panic c) a w) (hw:∀s,s∈St→s≠i) :
  ∀(fuel:Nat) (listed:Array Bool) (a:Act) (w:World),
   (∀j oj,ops[j]?=some oj→j≠i→listed.getD j true=false→(∀e∈oj.after,Region.binds md e=true→e.on≠i)→oi.apart ops oj=true)→
   i∈Region.ready md ops listed→YieldsIf P ops (fun _=>True) oi v a→(NoneUp St (listed.setIfInBounds i true)→S w)→
   wpAnyX P md ops Q S St fuel (listed.setIfInBounds i true) (a.put oi.dst v) w→wpAnyX P md ops Q S St (fuel+1) listed a w:=by
 intro fuel
 induction fuel with
 | zero=>
  intro listed a w _ hr hy hS H
  refine⟨fun h=>(by rw[h] at hr;cases hr),fun j hj=>?_⟩
  by_cases hji:j=i
  ·subst hji;exact hy.wpOp hi trivial ⟨hS,H⟩
  ·have:=ready_mono hj hji
   rw[H.1] at this
   cases this
 | succ fuel ih=>
  intro listed a w hfree hr hy hS H
  refine⟨fun h=>(by rw[h] at hr;cases hr),fun j hj=>?_⟩
  by_cases hji:j=i
  ·subst hji;exact hy.wpOp hi trivial ⟨hS,H⟩
  ·have h1:=H.2 j (ready_mono hj hji)
   obtain⟨hjun,oj,hoj,hall⟩:=mem_ready.1 hj
   have hiun:=(mem_ready.1 hr).1
   have hnot:∀e∈oj.after,Region.binds md e=true→e.on≠i:=fun e he hb heq=>by
    have h1:=hall e he hb
    rw[heq] at h1
    rcases Nat.lt_or_ge i listed.size with h' | h'
    ·simp[h'] at hiun h1;rw[hiun] at h1;cases h1
    ·simp[Array.getElem?_eq_none h'] at h1
   have h2:=wpOp_putIf hoj (hfree j oj hoj hji hjun hnot) (fun cs b=>hsel i oi cs b hi) (fun cs b=>hsel j oj cs b hoj) hQ hy h1
   have hfree':∀k ok,ops[k]?=some ok→k≠i→(listed.setIfInBounds j true).getD k true=false→
     (∀e∈ok.after,Region.binds md e=true→e.on≠i)→oi.apart ops ok=true:=fun k ok hk hki hun hno=>by
    refine hfree k ok hk hki ?_ hno
    by_cases hjk:j=k
    ·subst hjk;exact hjun
    ·rw[getD_set_ne true hjk] at hun;exact hun
   refine wpOp_mono (fun a' w' h3=>?_) h2
   refine⟨fun hn=>h3.2.1 (fun s hs=>?_),ih (listed.setIfInBounds j true) a' w' hfree' (ready_mono hr (Ne.symm hji)) h3.1 (fun hn=>h3.2.1 ?_) ?_⟩
   ·rw[Array.setIfInBounds_comm _ _ (Ne.symm hji),getD_set_ne false (Ne.symm (hw s hs))];exact hn s hs
   ·rw[Array.setIfInBounds_comm _ _ (Ne.symm hji)];exact hn
   ·rw[Array.setIfInBounds_comm _ _ hji]
    exact h3.2.2
theorem wpAnyX_takeN{i:Nat}{oi:Oper}{v:Value}{fuel:Nat}{listed:Array Bool}{a:Act}{w:World}(hi:ops[i]?=some oi)
  (hk:(Region.noSelect ops && Region.free md ops listed i && (Region.ready md ops listed).contains i && St.all fun s=> !(s == i))=true)
  (hQ:∀c a w,Q (.panic c) (a.put oi.dst v) w→Q (.panic c) a w) (hS:NoneUp St (listed.setIfInBounds i true)→S w) (hy:YieldsIf P ops (fun _=>True) oi v a)
  (h:wpAnyX P md ops Q S St fuel (listed.setIfInBounds i true) (a.put oi.dst v) w):wpAnyX P md ops Q S St (fuel+1) listed a w:=by
 simp only[Bool.and_eq_true] at hk
 obtain⟨⟨⟨h1,h2⟩,h3⟩,h4⟩:=hk
 refine wpAnyX_firstN hi (Region.noSelect_spec h1) hQ (fun s hs=>?_) fuel listed a w (Region.free_spec hi h2) (by simpa using h3) hy hS h
 have:=(List.all_eq_true.1 h4) s hs
 simpa using this
end
end
end Go.Proofs.YtplppdbdfhkljaaGreat
end
